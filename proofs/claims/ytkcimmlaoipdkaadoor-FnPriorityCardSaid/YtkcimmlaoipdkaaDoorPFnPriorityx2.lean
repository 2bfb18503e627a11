-- Written by a program of this repo (xprint.py) out of the translation; Lean checks it.
import Derived.Test.YtkcimmlaoipdkaaDoorPFnPriorityx0
namespace Go.Proofs.YtkcimmlaoipdkaaDoor.PFnPriority
open Go.RowKit Go.Proofs.YtkcimmlaoipdkaaDoorW.PrintWords Go.Proofs.YtkcimmlaoipdkaaDoorW.PrintLast Go.Proofs.YtkcimmlaoipdkaaDoorW.PrintMore
attribute [local go_sem] max2_int min2_int max_two min_two max_three min_three max_four min_four   -- for this text's walks alone
set_option linter.unusedVariables false
set_option linter.unusedSimpArgs false

/-! ### spec_ReadPriority: function 13 -/
mutual
def spec_ReadPriority.l0 : Nat → ByteArray → Int → Bool → Option (Int × Bool)
  | 0, _, _, _ => none
  | k + 1, x0, x4, x5 => if (x0.size : Int) > 0 then (spec_ReadPriority.l1 k x0 x4 x5 0) else (some (x4, x5))
def spec_ReadPriority.j2 : Nat → ByteArray → Int → Bool → Int → Option (Int × Bool)
  | 0, _, _, _, _ => none
  | k + 1, x0, x4, x5, x6 => if 0 ≤ x6 then (if x6 ≤ (x0.size : Int) then (if 0 ≤ (mn (wrap64 (x6 + 1)) (x0.size : Int)) then (if (mn (wrap64 (x6 + 1)) (x0.size : Int)) ≤ (x0.size : Int) then (spec_ReadPriority.l2 k (x0.extract ((mn (wrap64 (x6 + 1)) (x0.size : Int)) : Int).toNat x0.size) x4 x5 (x0.extract 0 (x6 : Int).toNat)) else (none)) else (none)) else (none)) else (none)
def spec_ReadPriority.j4 : Nat → ByteArray → Int → Bool → ByteArray → Option (Int × Bool)
  | 0, _, _, _, _ => none
  | k + 1, x0, x4, x5, x7 => spec_ReadPriority.l3 k x0 x4 x5 x7
def spec_ReadPriority.j6 : Nat → ByteArray → Int → Bool → ByteArray → Option (Int × Bool)
  | 0, _, _, _, _ => none
  | k + 1, x0, x4, x5, x7 => if x7.toList = ([105] : List UInt8) then (spec_ReadPriority.j7 k x0 x4 x5 x7 true) else (spec_ReadPriority.j7 k x0 x4 x5 x7 (x7.toList == ([105, 61, 63, 49] : List UInt8)))
def spec_ReadPriority.j7 : Nat → ByteArray → Int → Bool → ByteArray → Bool → Option (Int × Bool)
  | 0, _, _, _, _, _ => none
  | k + 1, x0, x4, x5, x7, x64 => if x64 = true then (spec_ReadPriority.l0 k x0 x4 true) else (if x7.toList = ([105, 61, 63, 48] : List UInt8) then (spec_ReadPriority.l0 k x0 x4 false) else (if (x7.size : Int) = 3 then (if 0 ≤ 2 then (if 2 ≤ (x7.size : Int) then (if (x7.extract 0 2).toList = ([117, 61] : List UInt8) then (if 2 < (x7.size : Int) then (if (bt x7 2) ≥ 48 then (if (bt x7 2) ≤ 55 then (spec_ReadPriority.l0 k x0 (((bt x7 2) - 48) % 256) x5) else (spec_ReadPriority.l0 k x0 x4 x5)) else (spec_ReadPriority.l0 k x0 x4 x5)) else (none)) else (spec_ReadPriority.l0 k x0 x4 x5)) else (none)) else (none)) else (spec_ReadPriority.l0 k x0 x4 x5)))
def spec_ReadPriority.l3 : Nat → ByteArray → Int → Bool → ByteArray → Option (Int × Bool)
  | 0, _, _, _, _ => none
  | k + 1, x0, x4, x5, x7 => if (x7.size : Int) > 0 then (if 0 ≤ (wrap64 ((x7.size : Int) - 1)) then (if (wrap64 ((x7.size : Int) - 1)) < (x7.size : Int) then (if (bt x7 (wrap64 ((x7.size : Int) - 1))) = 32 then (if (wrap64 ((x7.size : Int) - 1)) ≤ (x7.size : Int) then (spec_ReadPriority.l3 k x0 x4 x5 (x7.extract 0 ((wrap64 ((x7.size : Int) - 1)) : Int).toNat)) else (none)) else (spec_ReadPriority.j6 k x0 x4 x5 x7)) else (none)) else (none)) else (spec_ReadPriority.j6 k x0 x4 x5 x7)
def spec_ReadPriority.l2 : Nat → ByteArray → Int → Bool → ByteArray → Option (Int × Bool)
  | 0, _, _, _, _ => none
  | k + 1, x0, x4, x5, x7 => if (x7.size : Int) > 0 then (if 0 < (x7.size : Int) then (if (bt x7 0) = 32 then (if 1 ≤ (x7.size : Int) then (spec_ReadPriority.l2 k x0 x4 x5 (x7.extract 1 x7.size)) else (none)) else (spec_ReadPriority.j4 k x0 x4 x5 x7)) else (none)) else (spec_ReadPriority.j4 k x0 x4 x5 x7)
def spec_ReadPriority.l1 : Nat → ByteArray → Int → Bool → Int → Option (Int × Bool)
  | 0, _, _, _, _ => none
  | k + 1, x0, x4, x5, x6 => if x6 < (x0.size : Int) then (if 0 ≤ x6 then (if (bt x0 x6) = 44 then (spec_ReadPriority.j2 k x0 x4 x5 x6) else (spec_ReadPriority.l1 k x0 x4 x5 (wrap64 (x6 + 1)))) else (none)) else (spec_ReadPriority.j2 k x0 x4 x5 x6)
end
def spec_ReadPriority.f (k : Nat) (a0 : ByteArray) : Option (Int × Bool) := if (a0.size : Int) > 1024 then (some (3, false)) else (spec_ReadPriority.l0 k a0 3 false)
theorem spec_ReadPriority.mono_l : ∀ k, (∀ y0 y1 y2, LeO (spec_ReadPriority.l0 k y0 y1 y2) (spec_ReadPriority.l0 (k + 1) y0 y1 y2)) ∧ (∀ y0 y1 y2 y3, LeO (spec_ReadPriority.j2 k y0 y1 y2 y3) (spec_ReadPriority.j2 (k + 1) y0 y1 y2 y3)) ∧ (∀ y0 y1 y2 y3, LeO (spec_ReadPriority.j4 k y0 y1 y2 y3) (spec_ReadPriority.j4 (k + 1) y0 y1 y2 y3)) ∧ (∀ y0 y1 y2 y3, LeO (spec_ReadPriority.j6 k y0 y1 y2 y3) (spec_ReadPriority.j6 (k + 1) y0 y1 y2 y3)) ∧ (∀ y0 y1 y2 y3 y4, LeO (spec_ReadPriority.j7 k y0 y1 y2 y3 y4) (spec_ReadPriority.j7 (k + 1) y0 y1 y2 y3 y4)) ∧ (∀ y0 y1 y2 y3, LeO (spec_ReadPriority.l3 k y0 y1 y2 y3) (spec_ReadPriority.l3 (k + 1) y0 y1 y2 y3)) ∧ (∀ y0 y1 y2 y3, LeO (spec_ReadPriority.l2 k y0 y1 y2 y3) (spec_ReadPriority.l2 (k + 1) y0 y1 y2 y3)) ∧ (∀ y0 y1 y2 y3, LeO (spec_ReadPriority.l1 k y0 y1 y2 y3) (spec_ReadPriority.l1 (k + 1) y0 y1 y2 y3))
  | 0 => ⟨fun _ _ _ r h => by simp [spec_ReadPriority.l0] at h, fun _ _ _ _ r h => by simp [spec_ReadPriority.j2] at h, fun _ _ _ _ r h => by simp [spec_ReadPriority.j4] at h, fun _ _ _ _ r h => by simp [spec_ReadPriority.j6] at h, fun _ _ _ _ _ r h => by simp [spec_ReadPriority.j7] at h, fun _ _ _ _ r h => by simp [spec_ReadPriority.l3] at h, fun _ _ _ _ r h => by simp [spec_ReadPriority.l2] at h, fun _ _ _ _ r h => by simp [spec_ReadPriority.l1] at h⟩
  | k + 1 => by
    obtain ⟨ih0, ih1, ih2, ih3, ih4, ih5, ih6, ih7⟩ := spec_ReadPriority.mono_l k
    refine ⟨?_, ?_, ?_, ?_, ?_, ?_, ?_, ?_⟩
    · intro y0 y1 y2
      unfold spec_ReadPriority.l0
      repeat' first
      | (with_reducible exact ih0 _ _ _)
      | (with_reducible exact ih1 _ _ _ _)
      | (with_reducible exact ih2 _ _ _ _)
      | (with_reducible exact ih3 _ _ _ _)
      | (with_reducible exact ih4 _ _ _ _ _)
      | (with_reducible exact ih5 _ _ _ _)
      | (with_reducible exact ih6 _ _ _ _)
      | (with_reducible exact ih7 _ _ _ _)
      | (with_reducible exact LeO.refl _)
      | (with_reducible exact LeO.none _)
      | (with_reducible refine LeO.ite ?_ ?_)
      | (with_reducible refine LeO.bind ?_ (fun _ => ?_))
      | exact ih0 _ _ _
      | exact ih1 _ _ _ _
      | exact ih2 _ _ _ _
      | exact ih3 _ _ _ _
      | exact ih4 _ _ _ _ _
      | exact ih5 _ _ _ _
      | exact ih6 _ _ _ _
      | exact ih7 _ _ _ _
      | exact LeO.none _
      | refine LeO.ite ?_ ?_
      | refine LeO.bind ?_ (fun _ => ?_)
    · intro y0 y1 y2 y3
      unfold spec_ReadPriority.j2
      repeat' first
      | (with_reducible exact ih0 _ _ _)
      | (with_reducible exact ih1 _ _ _ _)
      | (with_reducible exact ih2 _ _ _ _)
      | (with_reducible exact ih3 _ _ _ _)
      | (with_reducible exact ih4 _ _ _ _ _)
      | (with_reducible exact ih5 _ _ _ _)
      | (with_reducible exact ih6 _ _ _ _)
      | (with_reducible exact ih7 _ _ _ _)
      | (with_reducible exact LeO.refl _)
      | (with_reducible exact LeO.none _)
      | (with_reducible refine LeO.ite ?_ ?_)
      | (with_reducible refine LeO.bind ?_ (fun _ => ?_))
      | exact ih0 _ _ _
      | exact ih1 _ _ _ _
      | exact ih2 _ _ _ _
      | exact ih3 _ _ _ _
      | exact ih4 _ _ _ _ _
      | exact ih5 _ _ _ _
      | exact ih6 _ _ _ _
      | exact ih7 _ _ _ _
      | exact LeO.none _
      | refine LeO.ite ?_ ?_
      | refine LeO.bind ?_ (fun _ => ?_)
    · intro y0 y1 y2 y3
      unfold spec_ReadPriority.j4
      repeat' first
      | (with_reducible exact ih0 _ _ _)
      | (with_reducible exact ih1 _ _ _ _)
      | (with_reducible exact ih2 _ _ _ _)
      | (with_reducible exact ih3 _ _ _ _)
      | (with_reducible exact ih4 _ _ _ _ _)
      | (with_reducible exact ih5 _ _ _ _)
      | (with_reducible exact ih6 _ _ _ _)
      | (with_reducible exact ih7 _ _ _ _)
      | (with_reducible exact LeO.refl _)
      | (with_reducible exact LeO.none _)
      | (with_reducible refine LeO.ite ?_ ?_)
      | (with_reducible refine LeO.bind ?_ (fun _ => ?_))
      | exact ih0 _ _ _
      | exact ih1 _ _ _ _
      | exact ih2 _ _ _ _
      | exact ih3 _ _ _ _
      | exact ih4 _ _ _ _ _
      | exact ih5 _ _ _ _
      | exact ih6 _ _ _ _
      | exact ih7 _ _ _ _
      | exact LeO.none _
      | refine LeO.ite ?_ ?_
      | refine LeO.bind ?_ (fun _ => ?_)
    · intro y0 y1 y2 y3
      unfold spec_ReadPriority.j6
      repeat' first
      | (with_reducible exact ih0 _ _ _)
      | (with_reducible exact ih1 _ _ _ _)
      | (with_reducible exact ih2 _ _ _ _)
      | (with_reducible exact ih3 _ _ _ _)
      | (with_reducible exact ih4 _ _ _ _ _)
      | (with_reducible exact ih5 _ _ _ _)
      | (with_reducible exact ih6 _ _ _ _)
      | (with_reducible exact ih7 _ _ _ _)
      | (with_reducible exact LeO.refl _)
      | (with_reducible exact LeO.none _)
      | (with_reducible refine LeO.ite ?_ ?_)
      | (with_reducible refine LeO.bind ?_ (fun _ => ?_))
      | exact ih0 _ _ _
      | exact ih1 _ _ _ _
      | exact ih2 _ _ _ _
      | exact ih3 _ _ _ _
      | exact ih4 _ _ _ _ _
      | exact ih5 _ _ _ _
      | exact ih6 _ _ _ _
      | exact ih7 _ _ _ _
      | exact LeO.none _
      | refine LeO.ite ?_ ?_
      | refine LeO.bind ?_ (fun _ => ?_)
    · intro y0 y1 y2 y3 y4
      unfold spec_ReadPriority.j7
      repeat' first
      | (with_reducible exact ih0 _ _ _)
      | (with_reducible exact ih1 _ _ _ _)
      | (with_reducible exact ih2 _ _ _ _)
      | (with_reducible exact ih3 _ _ _ _)
      | (with_reducible exact ih4 _ _ _ _ _)
      | (with_reducible exact ih5 _ _ _ _)
      | (with_reducible exact ih6 _ _ _ _)
      | (with_reducible exact ih7 _ _ _ _)
      | (with_reducible exact LeO.refl _)
      | (with_reducible exact LeO.none _)
      | (with_reducible refine LeO.ite ?_ ?_)
      | (with_reducible refine LeO.bind ?_ (fun _ => ?_))
      | exact ih0 _ _ _
      | exact ih1 _ _ _ _
      | exact ih2 _ _ _ _
      | exact ih3 _ _ _ _
      | exact ih4 _ _ _ _ _
      | exact ih5 _ _ _ _
      | exact ih6 _ _ _ _
      | exact ih7 _ _ _ _
      | exact LeO.none _
      | refine LeO.ite ?_ ?_
      | refine LeO.bind ?_ (fun _ => ?_)
    · intro y0 y1 y2 y3
      unfold spec_ReadPriority.l3
      repeat' first
      | (with_reducible exact ih0 _ _ _)
      | (with_reducible exact ih1 _ _ _ _)
      | (with_reducible exact ih2 _ _ _ _)
      | (with_reducible exact ih3 _ _ _ _)
      | (with_reducible exact ih4 _ _ _ _ _)
      | (with_reducible exact ih5 _ _ _ _)
      | (with_reducible exact ih6 _ _ _ _)
      | (with_reducible exact ih7 _ _ _ _)
      | (with_reducible exact LeO.refl _)
      | (with_reducible exact LeO.none _)
      | (with_reducible refine LeO.ite ?_ ?_)
      | (with_reducible refine LeO.bind ?_ (fun _ => ?_))
      | exact ih0 _ _ _
      | exact ih1 _ _ _ _
      | exact ih2 _ _ _ _
      | exact ih3 _ _ _ _
      | exact ih4 _ _ _ _ _
      | exact ih5 _ _ _ _
      | exact ih6 _ _ _ _
      | exact ih7 _ _ _ _
      | exact LeO.none _
      | refine LeO.ite ?_ ?_
      | refine LeO.bind ?_ (fun _ => ?_)
    · intro y0 y1 y2 y3
      unfold spec_ReadPriority.l2
      repeat' first
      | (with_reducible exact ih0 _ _ _)
      | (with_reducible exact ih1 _ _ _ _)
      | (with_reducible exact ih2 _ _ _ _)
      | (with_reducible exact ih3 _ _ _ _)
      | (with_reducible exact ih4 _ _ _ _ _)
      | (with_reducible exact ih5 _ _ _ _)
      | (with_reducible exact ih6 _ _ _ _)
      | (with_reducible exact ih7 _ _ _ _)
      | (with_reducible exact LeO.refl _)
      | (with_reducible exact LeO.none _)
      | (with_reducible refine LeO.ite ?_ ?_)
      | (with_reducible refine LeO.bind ?_ (fun _ => ?_))
      | exact ih0 _ _ _
      | exact ih1 _ _ _ _
      | exact ih2 _ _ _ _
      | exact ih3 _ _ _ _
      | exact ih4 _ _ _ _ _
      | exact ih5 _ _ _ _
      | exact ih6 _ _ _ _
      | exact ih7 _ _ _ _
      | exact LeO.none _
      | refine LeO.ite ?_ ?_
      | refine LeO.bind ?_ (fun _ => ?_)
    · intro y0 y1 y2 y3
      unfold spec_ReadPriority.l1
      repeat' first
      | (with_reducible exact ih0 _ _ _)
      | (with_reducible exact ih1 _ _ _ _)
      | (with_reducible exact ih2 _ _ _ _)
      | (with_reducible exact ih3 _ _ _ _)
      | (with_reducible exact ih4 _ _ _ _ _)
      | (with_reducible exact ih5 _ _ _ _)
      | (with_reducible exact ih6 _ _ _ _)
      | (with_reducible exact ih7 _ _ _ _)
      | (with_reducible exact LeO.refl _)
      | (with_reducible exact LeO.none _)
      | (with_reducible refine LeO.ite ?_ ?_)
      | (with_reducible refine LeO.bind ?_ (fun _ => ?_))
      | exact ih0 _ _ _
      | exact ih1 _ _ _ _
      | exact ih2 _ _ _ _
      | exact ih3 _ _ _ _
      | exact ih4 _ _ _ _ _
      | exact ih5 _ _ _ _
      | exact ih6 _ _ _ _
      | exact ih7 _ _ _ _
      | exact LeO.none _
      | refine LeO.ite ?_ ?_
      | refine LeO.bind ?_ (fun _ => ?_)
theorem spec_ReadPriority.mono : ∀ a0 k, LeO (spec_ReadPriority.f k a0) (spec_ReadPriority.f (k + 1) a0) := by
  intro a0 k
  obtain ⟨ih0, ih1, ih2, ih3, ih4, ih5, ih6, ih7⟩ := spec_ReadPriority.mono_l k
  unfold spec_ReadPriority.f
  repeat' first
      | (with_reducible exact ih0 _ _ _)
      | (with_reducible exact ih1 _ _ _ _)
      | (with_reducible exact ih2 _ _ _ _)
      | (with_reducible exact ih3 _ _ _ _)
      | (with_reducible exact ih4 _ _ _ _ _)
      | (with_reducible exact ih5 _ _ _ _)
      | (with_reducible exact ih6 _ _ _ _)
      | (with_reducible exact ih7 _ _ _ _)
      | (with_reducible exact LeO.refl _)
      | (with_reducible exact LeO.none _)
      | (with_reducible refine LeO.ite ?_ ?_)
      | (with_reducible refine LeO.bind ?_ (fun _ => ?_))
      | exact ih0 _ _ _
      | exact ih1 _ _ _ _
      | exact ih2 _ _ _ _
      | exact ih3 _ _ _ _
      | exact ih4 _ _ _ _ _
      | exact ih5 _ _ _ _
      | exact ih6 _ _ _ _
      | exact ih7 _ _ _ _
      | exact LeO.none _
      | refine LeO.ite ?_ ?_
      | refine LeO.bind ?_ (fun _ => ?_)
set_option maxHeartbeats 8000000 in
set_option maxRecDepth 100000 in
theorem spec_ReadPriority.calls (k : Nat) (a0 : ByteArray) (r1 : Int) (r2 : Bool) (w : World) (h : spec_ReadPriority.f k a0 = some (r1, r2)) :
    Calls Tryd.prog 13 #[.string a0] w fun e w' => e = .returned (.tuple #[.int .i64 r1, .bool r2]) ∧ Below w.heap.size w w' := by
  have HB := Aside0.mk (Below.refl w.heap.size w)
  have H : (if (a0.size : Int) > 1024 then (some (3, false)) else (spec_ReadPriority.l0 k a0 3 false)) = some (r1, r2) := h
  clear h
  by_cases c2 : (a0.size : Int) > 1024
  · rw [if_pos c2] at H
    have c2b0 : decide (1024 < (a0.size : Int)) = true := decide_eq_true c2
    have c2b1 : decide (1024 < a0.size) = true := decide_eq_true (by omega)
    clear c2
    simp only [Option.some.injEq, Prod.mk.injEq] at H
    obtain ⟨rfl, rfl⟩ := H
    go_enter Tryd.func13, Tryd.ntmps13
    go_wp2
    go_ret2
    exact ⟨by first | rfl | (simp [errW_none, errW_some] <;> rfl) | (simp [*, errW_none, errW_some] <;> rfl), by repeat (first | (with_reducible first | exact HB.out | apply below_alloc | apply pw_below_drewN | apply below_drew1) | exact HB.out)⟩
  · rw [if_neg c2] at H
    have c2b0 : decide (1024 < (a0.size : Int)) = false := decide_eq_false c2
    have c2b1 : decide (1024 < a0.size) = false := decide_eq_false (by omega)
    clear c2
    have H' := Aside0.mk H
    clear H
    go_enter Tryd.func13, Tryd.ntmps13
    go_wp2
    go_loopg [0, 4, 5] k (fun kq v0 v4 v5 w' => ∃ (x0_1 : ByteArray) (x4_1 : Int) (x5_1 : Bool), v0 = .string x0_1 ∧ v4 = .int .i64 x4_1 ∧ v5 = .bool x5_1 ∧ Aside0 (spec_ReadPriority.l0 kq x0_1 x4_1 x5_1 = some (r1, r2)) ∧ Aside0 (kq ≤ k) ∧ Aside0 (Below w.heap.size w w'))
    case atStart => exact ⟨(a0), (3), (false), (by first | rfl | (simp; done) | (simp [*]; done)), (by first | rfl | (simp; done) | (simp [*]; done)), (by first | rfl | (simp; done) | (simp [*]; done)), H', ⟨Nat.le_refl _⟩, ⟨by repeat (first | (with_reducible first | exact HB.out | apply below_alloc | apply pw_below_drewN | apply below_drew1) | exact HB.out)⟩⟩
    case round =>
      clear H'
      try clear c1
      try clear c2
      try clear c2b0
      try clear c2b1
      try clear p2
      obtain ⟨x0_1, x4_1, x5_1, rfl, rfl, rfl, HA, HK1, HB⟩ := hrel
      cases gk with
      | zero => exact absurd HA.out (by simp [spec_ReadPriority.l0])
      | succ k1 =>
        have H := HA.out
        clear HA
        simp only [spec_ReadPriority.l0] at H
        by_cases c3 : (x0_1.size : Int) > 0
        · rw [if_pos c3] at H
          have c3b0 : decide (0 < (x0_1.size : Int)) = true := decide_eq_true c3
          have c3b1 : decide (0 < x0_1.size) = true := decide_eq_true (by omega)
          clear c3
          have HC4 := Aside0.mk H
          clear H
          go_upto_block 2 with (fail)
          go_cut [6] (fun v6 wc => ∃ (kq : Nat) (x6_3 : Int), v6 = .int .i64 x6_3 ∧ Aside0 (spec_ReadPriority.j2 kq x0_1 x4_1 x5_1 x6_3 = some (r1, r2)) ∧ Aside0 (kq ≤ k1) ∧ Aside0 (Below w.heap.size w wc))
          case first =>
            have H := HC4.out
            clear HC4
            have H' := Aside0.mk H
            clear H
            go_wp2
            go_loopg [6] k1 (fun kq v6 w' => ∃ (x6_2 : Int), v6 = .int .i64 x6_2 ∧ Aside0 (spec_ReadPriority.l1 kq x0_1 x4_1 x5_1 x6_2 = some (r1, r2)) ∧ Aside0 (kq ≤ k1) ∧ Aside0 (Below w.heap.size w w'))
            case atStart => exact ⟨(0), (by first | rfl | (simp; done) | (simp [*]; done)), H', ⟨Nat.le_refl _⟩, ⟨by repeat (first | (with_reducible first | exact HB.out | apply below_alloc | apply pw_below_drewN | apply below_drew1) | exact HB.out)⟩⟩
            case round =>
              clear H'
              try clear c1
              try clear c2
              try clear c2b0
              try clear c2b1
              try clear p2
              try clear c3
              try clear c3b0
              try clear c3b1
              try clear p2
              obtain ⟨x6_2, rfl, HA, HK2, HB⟩ := hrel
              cases gk with
              | zero => exact absurd HA.out (by simp [spec_ReadPriority.l1])
              | succ k2 =>
                have H := HA.out
                clear HA
                simp only [spec_ReadPriority.l1] at H
                by_cases c5 : x6_2 < (x0_1.size : Int)
                · rw [if_pos c5] at H
                  have c5b0 : decide (x6_2 < (x0_1.size : Int)) = true := decide_eq_true c5
                  clear c5
                  (first | rw [c5b0] | (simp only [i64_w, i32_w]; rw [c5b0]) | skip)
                  by_cases c6 : 0 ≤ x6_2
                  · rw [if_pos c6] at H
                    have c6b0 : decide (0 ≤ x6_2) = true := decide_eq_true c6
                    clear c6
                    by_cases c8 : (bt x0_1 x6_2) = 44
                    · rw [if_pos c8] at H
                      have c8b0 : ((bt x0_1 x6_2) == 44) = true := beq_iff_eq.mpr c8
                      have c8b1 : ((bt x0_1 x6_2) != 44) = false := bne_eq_false_iff_eq.mpr c8
                      clear c8
                      have H' := Aside0.mk H
                      clear H
                      have p7 : 0 ≤ (x6_2 : Int) := of_decide_eq_true (by first | (with_reducible assumption) | assumption)
                      have q7 : x6_2 < (x0_1.size : Int) := of_decide_eq_true (by first | (with_reducible assumption) | assumption)
                      have hx7 := bt_at x0_1 x6_2
                      replace p7 := eq_true p7
                      replace q7 := eq_true q7
                      go_wp2
                      go_meet
                      case rel => exact ⟨_, (x6_2), (by first | rfl | (simp; done) | (simp [*]; done)), H', ⟨by have := HK1.out; have := HK2.out; first | omega | exact Nat.le_refl _⟩, ⟨by repeat (first | (with_reducible first | exact HB.out | apply below_alloc | apply pw_below_drewN | apply below_drew1) | exact HB.out)⟩⟩
                    · rw [if_neg c8] at H
                      have c8b0 : ((bt x0_1 x6_2) == 44) = false := beq_eq_false_iff_ne.mpr c8
                      have c8b1 : ((bt x0_1 x6_2) != 44) = true := bne_iff_ne.mpr c8
                      have H' := Aside0.mk H
                      clear H
                      have p7 : 0 ≤ (x6_2 : Int) := of_decide_eq_true (by first | (with_reducible assumption) | assumption)
                      have q7 : x6_2 < (x0_1.size : Int) := of_decide_eq_true (by first | (with_reducible assumption) | assumption)
                      have hx7 := bt_at x0_1 x6_2
                      replace p7 := eq_true p7
                      replace q7 := eq_true q7
                      go_wp2
                      go_roundg k2
                      case measure => have := HK1.out; have := HK2.out; omega
                      case rel => exact ⟨(wrap64 (x6_2 + 1)), (by first | rfl | (simp; done) | (simp [*]; done)), H', ⟨by have := HK1.out; have := HK2.out; omega⟩, ⟨by repeat (first | (with_reducible first | exact HB.out | apply below_alloc | apply pw_below_drewN | apply below_drew1) | exact HB.out)⟩⟩
                  · rw [if_neg c6] at H
                    exact absurd H (by simp)
                · rw [if_neg c5] at H
                  have c5b0 : decide (x6_2 < (x0_1.size : Int)) = false := decide_eq_false c5
                  clear c5
                  (first | rw [c5b0] | (simp only [i64_w, i32_w]; rw [c5b0]) | skip)
                  have H' := Aside0.mk H
                  clear H
                  go_wp2
                  go_meet
                  case rel => exact ⟨_, (x6_2), (by first | rfl | (simp; done) | (simp [*]; done)), H', ⟨by have := HK1.out; have := HK2.out; first | omega | exact Nat.le_refl _⟩, ⟨by repeat (first | (with_reducible first | exact HB.out | apply below_alloc | apply pw_below_drewN | apply below_drew1) | exact HB.out)⟩⟩
          case rest =>
            clear HC4
            try clear c1
            try clear c2
            try clear c2b0
            try clear c2b1
            try clear p2
            try clear c3
            try clear c3b0
            try clear c3b1
            try clear c5
            try clear c5b0
            try clear c6
            try clear c6b0
            try clear p6
            try clear p7
            try clear q7
            try clear hx7
            try clear c8
            try clear c8b0
            try clear c8b1
            try clear p2
            try clear p7
            try clear q7
            obtain ⟨kq, x6_3, rfl, HA, HJ3, HB⟩ := hcut
            cases kq with
            | zero => exact absurd HA.out (by simp [spec_ReadPriority.j2])
            | succ kj3 =>
              have H := HA.out
              clear HA
              simp only [spec_ReadPriority.j2] at H
              by_cases c9 : 0 ≤ x6_3
              · rw [if_pos c9] at H
                have c9b0 := eq_true c9
                have c9b1 : decide (0 ≤ x6_3) = true := decide_eq_true c9
                clear c9
                by_cases c10 : x6_3 ≤ (x0_1.size : Int)
                · rw [if_pos c10] at H
                  have c10b0 := eq_true c10
                  have c10b1 : decide (x6_3 ≤ (x0_1.size : Int)) = true := decide_eq_true c10
                  clear c10
                  obtain ⟨ji11, hji11⟩ : ∃ j_ : Int, (mn (wrap64 (x6_3 + 1)) (x0_1.size : Int)) = j_ := ⟨_, rfl⟩
                  replace H : (if 0 ≤ (ji11) then (if (ji11) ≤ (x0_1.size : Int) then (spec_ReadPriority.l2 kj3 (x0_1.extract ((ji11) : Int).toNat x0_1.size) x4_1 x5_1 (x0_1.extract 0 (x6_3 : Int).toNat)) else (none)) else (none)) = some (r1, r2) := by first | (rw [hji11] at H; exact H) | (simp only [hji11] at H ⊢; exact H)
                  have hji11_ : (if (x0_1.size : Int) < (wrap64 (x6_3 + 1)) then (x0_1.size : Int) else (wrap64 (x6_3 + 1))) = ji11 := hji11
                  by_cases c12 : 0 ≤ (ji11)
                  · rw [if_pos c12] at H
                    have c12b0 := eq_true c12
                    have c12b1 : decide (0 ≤ (ji11)) = true := decide_eq_true c12
                    clear c12
                    by_cases c13 : (ji11) ≤ (x0_1.size : Int)
                    · rw [if_pos c13] at H
                      have c13b0 := eq_true c13
                      have c13b1 : decide ((ji11) ≤ (x0_1.size : Int)) = true := decide_eq_true c13
                      clear c13
                      have HC14 := Aside0.mk H
                      clear H
                      go_upto_block 4 with (fail)
                      go_cut [7] (fun v7 wc => ∃ (kq : Nat) (x7_13 : ByteArray), v7 = .string x7_13 ∧ Aside0 (spec_ReadPriority.j4 kq (x0_1.extract ((ji11) : Int).toNat x0_1.size) x4_1 x5_1 x7_13 = some (r1, r2)) ∧ Aside0 (kq ≤ kj3) ∧ Aside0 (Below w.heap.size w wc))
                      case first =>
                        have H := HC14.out
                        clear HC14
                        have H' := Aside0.mk H
                        clear H
                        go_wp2
                        go_loopg [7] kj3 (fun kq v7 w' => ∃ (x7_3 : ByteArray), v7 = .string x7_3 ∧ Aside0 (spec_ReadPriority.l2 kq (x0_1.extract ((ji11) : Int).toNat x0_1.size) x4_1 x5_1 x7_3 = some (r1, r2)) ∧ Aside0 (kq ≤ kj3) ∧ Aside0 (Below w.heap.size w w'))
                        case atStart => exact ⟨(x0_1.extract 0 (x6_3 : Int).toNat), (by first | rfl | (simp; done) | (simp [*]; done)), H', ⟨Nat.le_refl _⟩, ⟨by repeat (first | (with_reducible first | exact HB.out | apply below_alloc | apply pw_below_drewN | apply below_drew1) | exact HB.out)⟩⟩
                        case round =>
                          clear H'
                          try clear c1
                          try clear c2
                          try clear c2b0
                          try clear c2b1
                          try clear p2
                          try clear c3
                          try clear c3b0
                          try clear c3b1
                          try clear c5
                          try clear c5b0
                          try clear c6
                          try clear c6b0
                          try clear p6
                          try clear p7
                          try clear q7
                          try clear hx7
                          try clear c8
                          try clear c8b0
                          try clear c8b1
                          try clear c9
                          try clear c9b0
                          try clear c9b1
                          try clear c10
                          try clear c10b0
                          try clear c10b1
                          try clear c12
                          try clear c12b0
                          try clear c12b1
                          try clear c13
                          try clear c13b0
                          try clear c13b1
                          try clear p2
                          try clear p6
                          try clear p7
                          try clear q7
                          obtain ⟨x7_3, rfl, HA, HK3, HB⟩ := hrel
                          cases gk with
                          | zero => exact absurd HA.out (by simp [spec_ReadPriority.l2])
                          | succ k3 =>
                            have H := HA.out
                            clear HA
                            simp only [spec_ReadPriority.l2] at H
                            by_cases c15 : (x7_3.size : Int) > 0
                            · rw [if_pos c15] at H
                              have c15b0 : decide (0 < (x7_3.size : Int)) = true := decide_eq_true c15
                              have c15b1 : decide (0 < x7_3.size) = true := decide_eq_true (by omega)
                              clear c15
                              (first | rw [c15b0] | (simp only [i64_w, i32_w]; rw [c15b0]) | skip)
                              by_cases c16 : 0 < (x7_3.size : Int)
                              · rw [if_pos c16] at H
                                have c16b0 : decide (0 < (x7_3.size : Int)) = true := decide_eq_true c16
                                have c16b1 : decide (0 < x7_3.size) = true := decide_eq_true (by omega)
                                clear c16
                                by_cases c18 : (bt x7_3 0) = 32
                                · rw [if_pos c18] at H
                                  have c18b0 : ((bt x7_3 0) == 32) = true := beq_iff_eq.mpr c18
                                  have c18b1 : ((bt x7_3 0) != 32) = false := bne_eq_false_iff_eq.mpr c18
                                  clear c18
                                  by_cases c19 : 1 ≤ (x7_3.size : Int)
                                  · rw [if_pos c19] at H
                                    have c19b0 := eq_true c19
                                    have c19b1 : decide (1 ≤ (x7_3.size : Int)) = true := decide_eq_true c19
                                    clear c19
                                    have H' := Aside0.mk H
                                    clear H
                                    have p17 : 0 ≤ (0 : Int) := (by omega)
                                    have q17 : 0 < x7_3.size := (by have : (0 : Int) < (x7_3.size : Int) := of_decide_eq_true (by first | (with_reducible assumption) | assumption); omega)
                                    have hx17 : ∀ h : 0 < x7_3.size, ((x7_3[0]'h).toNat : Int) = bt x7_3 0 := bt_at x7_3 0
                                    clear p17
                                    have qi17 : (0 < (x7_3.size : Int)) = True := eq_true (of_decide_eq_true (by first | (with_reducible assumption) | assumption))
                                    replace q17 := eq_true q17
                                    go_wp2
                                    go_roundg k3
                                    case measure => have := HK1.out; have := HJ3.out; have := HK3.out; omega
                                    case rel => exact ⟨(x7_3.extract 1 x7_3.size), (by first | rfl | (simp; done) | (simp [*]; done)), H', ⟨by have := HK1.out; have := HJ3.out; have := HK3.out; omega⟩, ⟨by repeat (first | (with_reducible first | exact HB.out | apply below_alloc | apply pw_below_drewN | apply below_drew1) | exact HB.out)⟩⟩
                                  · rw [if_neg c19] at H
                                    exact absurd H (by simp)
                                · rw [if_neg c18] at H
                                  have c18b0 : ((bt x7_3 0) == 32) = false := beq_eq_false_iff_ne.mpr c18
                                  have c18b1 : ((bt x7_3 0) != 32) = true := bne_iff_ne.mpr c18
                                  have H' := Aside0.mk H
                                  clear H
                                  have p17 : 0 ≤ (0 : Int) := (by omega)
                                  have q17 : 0 < x7_3.size := (by have : (0 : Int) < (x7_3.size : Int) := of_decide_eq_true (by first | (with_reducible assumption) | assumption); omega)
                                  have hx17 : ∀ h : 0 < x7_3.size, ((x7_3[0]'h).toNat : Int) = bt x7_3 0 := bt_at x7_3 0
                                  clear p17
                                  have qi17 : (0 < (x7_3.size : Int)) = True := eq_true (of_decide_eq_true (by first | (with_reducible assumption) | assumption))
                                  replace q17 := eq_true q17
                                  go_wp2
                                  go_meet
                                  case rel => exact ⟨_, (x7_3), (by first | rfl | (simp; done) | (simp [*]; done)), H', ⟨by have := HK1.out; have := HJ3.out; have := HK3.out; first | omega | exact Nat.le_refl _⟩, ⟨by repeat (first | (with_reducible first | exact HB.out | apply below_alloc | apply pw_below_drewN | apply below_drew1) | exact HB.out)⟩⟩
                              · rw [if_neg c16] at H
                                exact absurd H (by simp)
                            · rw [if_neg c15] at H
                              have c15b0 : decide (0 < (x7_3.size : Int)) = false := decide_eq_false c15
                              have c15b1 : decide (0 < x7_3.size) = false := decide_eq_false (by omega)
                              clear c15
                              (first | rw [c15b0] | (simp only [i64_w, i32_w]; rw [c15b0]) | skip)
                              have H' := Aside0.mk H
                              clear H
                              go_wp2
                              go_meet
                              case rel => exact ⟨_, (x7_3), (by first | rfl | (simp; done) | (simp [*]; done)), H', ⟨by have := HK1.out; have := HJ3.out; have := HK3.out; first | omega | exact Nat.le_refl _⟩, ⟨by repeat (first | (with_reducible first | exact HB.out | apply below_alloc | apply pw_below_drewN | apply below_drew1) | exact HB.out)⟩⟩
                      case rest =>
                        clear HC14
                        try clear c1
                        try clear p1
                        try clear q1
                        try clear hx1
                        try clear qi1
                        try clear c2
                        try clear c2b0
                        try clear c2b1
                        try clear p2
                        try clear c3
                        try clear c3b0
                        try clear c3b1
                        try clear c5
                        try clear c5b0
                        try clear c6
                        try clear c6b0
                        try clear p6
                        try clear p7
                        try clear q7
                        try clear hx7
                        try clear c8
                        try clear c8b0
                        try clear c8b1
                        try clear c9
                        try clear c9b0
                        try clear c9b1
                        try clear c10
                        try clear c10b0
                        try clear c10b1
                        try clear c12
                        try clear c12b0
                        try clear c12b1
                        try clear c13
                        try clear c13b0
                        try clear c13b1
                        try clear c15
                        try clear c15b0
                        try clear c15b1
                        try clear c16
                        try clear c16b0
                        try clear c16b1
                        try clear p17
                        try clear q17
                        try clear hx17
                        try clear qi17
                        try clear c18
                        try clear c18b0
                        try clear c18b1
                        try clear c19
                        try clear c19b0
                        try clear c19b1
                        try clear p17
                        try clear p2
                        try clear p6
                        try clear p7
                        try clear q17
                        try clear q7
                        obtain ⟨kq, x7_13, rfl, HA, HJ13, HB⟩ := hcut
                        cases kq with
                        | zero => exact absurd HA.out (by simp [spec_ReadPriority.j4])
                        | succ kj13 =>
                          have H := HA.out
                          clear HA
                          simp only [spec_ReadPriority.j4] at H
                          have HC20 := Aside0.mk H
                          clear H
                          go_upto_block 6 with (fail)
                          go_cut [7] (fun v7 wc => ∃ (kq : Nat) (x7_19 : ByteArray), v7 = .string x7_19 ∧ Aside0 (spec_ReadPriority.j6 kq (x0_1.extract ((ji11) : Int).toNat x0_1.size) x4_1 x5_1 x7_19 = some (r1, r2)) ∧ Aside0 (kq ≤ kj13) ∧ Aside0 (Below w.heap.size w wc))
                          case first =>
                            have H := HC20.out
                            clear HC20
                            have H' := Aside0.mk H
                            clear H
                            go_wp2
                            go_loopg [7] kj13 (fun kq v7 w' => ∃ (x7_4 : ByteArray), v7 = .string x7_4 ∧ Aside0 (spec_ReadPriority.l3 kq (x0_1.extract ((ji11) : Int).toNat x0_1.size) x4_1 x5_1 x7_4 = some (r1, r2)) ∧ Aside0 (kq ≤ kj13) ∧ Aside0 (Below w.heap.size w w'))
                            case atStart => exact ⟨(x7_13), (by first | rfl | (simp; done) | (simp [*]; done)), H', ⟨Nat.le_refl _⟩, ⟨by repeat (first | (with_reducible first | exact HB.out | apply below_alloc | apply pw_below_drewN | apply below_drew1) | exact HB.out)⟩⟩
                            case round =>
                              clear H'
                              try clear c1
                              try clear p1
                              try clear q1
                              try clear hx1
                              try clear qi1
                              try clear c2
                              try clear c2b0
                              try clear c2b1
                              try clear p2
                              try clear c3
                              try clear c3b0
                              try clear c3b1
                              try clear c5
                              try clear c5b0
                              try clear c6
                              try clear c6b0
                              try clear p6
                              try clear p7
                              try clear q7
                              try clear hx7
                              try clear c8
                              try clear c8b0
                              try clear c8b1
                              try clear c9
                              try clear c9b0
                              try clear c9b1
                              try clear c10
                              try clear c10b0
                              try clear c10b1
                              try clear c12
                              try clear c12b0
                              try clear c12b1
                              try clear c13
                              try clear c13b0
                              try clear c13b1
                              try clear c15
                              try clear c15b0
                              try clear c15b1
                              try clear c16
                              try clear c16b0
                              try clear c16b1
                              try clear p17
                              try clear q17
                              try clear hx17
                              try clear qi17
                              try clear c18
                              try clear c18b0
                              try clear c18b1
                              try clear c19
                              try clear c19b0
                              try clear c19b1
                              try clear p1
                              try clear p17
                              try clear p2
                              try clear p6
                              try clear p7
                              try clear q1
                              try clear q17
                              try clear q7
                              obtain ⟨x7_4, rfl, HA, HK4, HB⟩ := hrel
                              cases gk with
                              | zero => exact absurd HA.out (by simp [spec_ReadPriority.l3])
                              | succ k4 =>
                                have H := HA.out
                                clear HA
                                simp only [spec_ReadPriority.l3] at H
                                by_cases c21 : (x7_4.size : Int) > 0
                                · rw [if_pos c21] at H
                                  have c21b0 : decide (0 < (x7_4.size : Int)) = true := decide_eq_true c21
                                  have c21b1 : decide (0 < x7_4.size) = true := decide_eq_true (by omega)
                                  clear c21
                                  (first | rw [c21b0] | (simp only [i64_w, i32_w]; rw [c21b0]) | skip)
                                  obtain ⟨ji22, hji22⟩ : ∃ j_ : Int, (wrap64 ((x7_4.size : Int) - 1)) = j_ := ⟨_, rfl⟩
                                  replace H : (if 0 ≤ (ji22) then (if (ji22) < (x7_4.size : Int) then (if (bt x7_4 (ji22)) = 32 then (if (ji22) ≤ (x7_4.size : Int) then (spec_ReadPriority.l3 k4 (x0_1.extract ((ji11) : Int).toNat x0_1.size) x4_1 x5_1 (x7_4.extract 0 ((ji22) : Int).toNat)) else (none)) else (spec_ReadPriority.j6 k4 (x0_1.extract ((ji11) : Int).toNat x0_1.size) x4_1 x5_1 x7_4)) else (none)) else (none)) = some (r1, r2) := by first | (rw [hji22] at H; exact H) | (simp only [hji22] at H ⊢; exact H)
                                  have hji22w : (IntKind.i64.wrap ((x7_4.size : Int) - 1)) = ji22 := (i64_w _).trans hji22
                                  by_cases c23 : 0 ≤ (ji22)
                                  · rw [if_pos c23] at H
                                    have c23b0 : decide (0 ≤ (ji22)) = true := decide_eq_true c23
                                    clear c23
                                    by_cases c24 : (ji22) < (x7_4.size : Int)
                                    · rw [if_pos c24] at H
                                      have c24b0 : decide ((ji22) < (x7_4.size : Int)) = true := decide_eq_true c24
                                      clear c24
                                      by_cases c26 : (bt x7_4 (ji22)) = 32
                                      · rw [if_pos c26] at H
                                        have c26b0 : ((bt x7_4 (ji22)) == 32) = true := beq_iff_eq.mpr c26
                                        have c26b1 : ((bt x7_4 (ji22)) != 32) = false := bne_eq_false_iff_eq.mpr c26
                                        clear c26
                                        have c27b0 := eq_true (of_decide_eq_true (by first | (with_reducible assumption) | assumption) : 0 ≤ (ji22))
                                        by_cases c28 : (ji22) ≤ (x7_4.size : Int)
                                        · rw [if_pos c28] at H
                                          have c28b0 := eq_true c28
                                          have c28b1 : decide ((ji22) ≤ (x7_4.size : Int)) = true := decide_eq_true c28
                                          clear c28
                                          have H' := Aside0.mk H
                                          clear H
                                          have p25 : 0 ≤ ((ji22) : Int) := of_decide_eq_true (by first | (with_reducible assumption) | assumption)
                                          have q25 : (ji22) < (x7_4.size : Int) := of_decide_eq_true (by first | (with_reducible assumption) | assumption)
                                          have hx25 := bt_at x7_4 (ji22)
                                          replace p25 := eq_true p25
                                          replace q25 := eq_true q25
                                          go_wp2
                                          go_roundg k4
                                          case measure => have := HK1.out; have := HJ3.out; have := HJ13.out; have := HK4.out; omega
                                          case rel => exact ⟨(x7_4.extract 0 ((ji22) : Int).toNat), (by first | rfl | (simp; done) | (simp only [← hji22] <;> (first | rfl | simp)) | (simp [*]; done)), H', ⟨by have := HK1.out; have := HJ3.out; have := HJ13.out; have := HK4.out; omega⟩, ⟨by repeat (first | (with_reducible first | exact HB.out | apply below_alloc | apply pw_below_drewN | apply below_drew1) | exact HB.out)⟩⟩
                                        · rw [if_neg c28] at H
                                          exact absurd H (by simp)
                                      · rw [if_neg c26] at H
                                        have c26b0 : ((bt x7_4 (ji22)) == 32) = false := beq_eq_false_iff_ne.mpr c26
                                        have c26b1 : ((bt x7_4 (ji22)) != 32) = true := bne_iff_ne.mpr c26
                                        have H' := Aside0.mk H
                                        clear H
                                        have p25 : 0 ≤ ((ji22) : Int) := of_decide_eq_true (by first | (with_reducible assumption) | assumption)
                                        have q25 : (ji22) < (x7_4.size : Int) := of_decide_eq_true (by first | (with_reducible assumption) | assumption)
                                        have hx25 := bt_at x7_4 (ji22)
                                        replace p25 := eq_true p25
                                        replace q25 := eq_true q25
                                        go_wp2
                                        go_meet
                                        case rel => exact ⟨_, (x7_4), (by first | rfl | (simp; done) | (simp [*]; done)), H', ⟨by have := HK1.out; have := HJ3.out; have := HJ13.out; have := HK4.out; first | omega | exact Nat.le_refl _⟩, ⟨by repeat (first | (with_reducible first | exact HB.out | apply below_alloc | apply pw_below_drewN | apply below_drew1) | exact HB.out)⟩⟩
                                    · rw [if_neg c24] at H
                                      exact absurd H (by simp)
                                  · rw [if_neg c23] at H
                                    exact absurd H (by simp)
                                · rw [if_neg c21] at H
                                  have c21b0 : decide (0 < (x7_4.size : Int)) = false := decide_eq_false c21
                                  have c21b1 : decide (0 < x7_4.size) = false := decide_eq_false (by omega)
                                  clear c21
                                  (first | rw [c21b0] | (simp only [i64_w, i32_w]; rw [c21b0]) | skip)
                                  have H' := Aside0.mk H
                                  clear H
                                  go_wp2
                                  go_meet
                                  case rel => exact ⟨_, (x7_4), (by first | rfl | (simp; done) | (simp [*]; done)), H', ⟨by have := HK1.out; have := HJ3.out; have := HJ13.out; have := HK4.out; first | omega | exact Nat.le_refl _⟩, ⟨by repeat (first | (with_reducible first | exact HB.out | apply below_alloc | apply pw_below_drewN | apply below_drew1) | exact HB.out)⟩⟩
                          case rest =>
                            clear HC20
                            try clear c1
                            try clear p1
                            try clear q1
                            try clear hx1
                            try clear qi1
                            try clear c2
                            try clear c2b0
                            try clear c2b1
                            try clear p2
                            try clear q2
                            try clear hx2
                            try clear c3
                            try clear c3b0
                            try clear c3b1
                            try clear c5
                            try clear c5b0
                            try clear c6
                            try clear c6b0
                            try clear p6
                            try clear p7
                            try clear q7
                            try clear hx7
                            try clear c8
                            try clear c8b0
                            try clear c8b1
                            try clear c9
                            try clear c9b0
                            try clear c9b1
                            try clear c10
                            try clear c10b0
                            try clear c10b1
                            try clear c12
                            try clear c12b0
                            try clear c12b1
                            try clear c13
                            try clear c13b0
                            try clear c13b1
                            try clear c15
                            try clear c15b0
                            try clear c15b1
                            try clear c16
                            try clear c16b0
                            try clear c16b1
                            try clear p17
                            try clear q17
                            try clear hx17
                            try clear qi17
                            try clear c18
                            try clear c18b0
                            try clear c18b1
                            try clear c19
                            try clear c19b0
                            try clear c19b1
                            try clear c21
                            try clear c21b0
                            try clear c21b1
                            try clear c23
                            try clear c23b0
                            try clear c24
                            try clear c24b0
                            try clear p25
                            try clear q25
                            try clear hx25
                            try clear c26
                            try clear c26b0
                            try clear c26b1
                            try clear c27
                            try clear c27b0
                            try clear c28
                            try clear c28b0
                            try clear c28b1
                            try clear p1
                            try clear p17
                            try clear p2
                            try clear p25
                            try clear p6
                            try clear p7
                            try clear q1
                            try clear q17
                            try clear q25
                            try clear q7
                            obtain ⟨kq, x7_19, rfl, HA, HJ19, HB⟩ := hcut
                            cases kq with
                            | zero => exact absurd HA.out (by simp [spec_ReadPriority.j6])
                            | succ kj19 =>
                              have H := HA.out
                              clear HA
                              simp only [spec_ReadPriority.j6] at H
                              have HC29 := Aside0.mk H
                              clear H
                              go_upto_region 15 with (fail)
                              go_cut [64] (fun v64 wc => ∃ (kq : Nat) (x64_28 : Bool), v64 = .bool x64_28 ∧ Aside0 (spec_ReadPriority.j7 kq (x0_1.extract ((ji11) : Int).toNat x0_1.size) x4_1 x5_1 x7_19 x64_28 = some (r1, r2)) ∧ Aside0 (kq ≤ kj19) ∧ Aside0 (Below w.heap.size w wc))
                              case first =>
                                have H := HC29.out
                                clear HC29
                                by_cases c30 : x7_19.toList = ([105] : List UInt8)
                                · rw [if_pos c30] at H
                                  have c30b0 : (x7_19.toList == ([105] : List UInt8)) = true := beq_iff_eq.mpr c30
                                  have c30b1 : (x7_19.toList != ([105] : List UInt8)) = false := bne_eq_false_iff_eq.mpr c30
                                  clear c30
                                  (first | rw [c30b0] | (simp only [i64_w, i32_w]; rw [c30b0]) | skip)
                                  have H' := Aside0.mk H
                                  clear H
                                  go_wp2
                                  go_meet
                                  case rel => exact ⟨_, (true), (by first | rfl | (simp; done) | (simp [*]; done)), H', ⟨by have := HK1.out; have := HJ3.out; have := HJ13.out; have := HJ19.out; first | omega | exact Nat.le_refl _⟩, ⟨by repeat (first | (with_reducible first | exact HB.out | apply below_alloc | apply pw_below_drewN | apply below_drew1) | exact HB.out)⟩⟩
                                · rw [if_neg c30] at H
                                  have c30b0 : (x7_19.toList == ([105] : List UInt8)) = false := beq_eq_false_iff_ne.mpr c30
                                  have c30b1 : (x7_19.toList != ([105] : List UInt8)) = true := bne_iff_ne.mpr c30
                                  (first | rw [c30b0] | (simp only [i64_w, i32_w]; rw [c30b0]) | skip)
                                  have H' := Aside0.mk H
                                  clear H
                                  go_wp2
                                  go_meet
                                  case rel => exact ⟨_, ((x7_19.toList == ([105, 61, 63, 49] : List UInt8))), (by first | rfl | (simp; done) | (simp [*]; done)), H', ⟨by have := HK1.out; have := HJ3.out; have := HJ13.out; have := HJ19.out; first | omega | exact Nat.le_refl _⟩, ⟨by repeat (first | (with_reducible first | exact HB.out | apply below_alloc | apply pw_below_drewN | apply below_drew1) | exact HB.out)⟩⟩
                              case rest =>
                                clear HC29
                                try clear c1
                                try clear p1
                                try clear q1
                                try clear hx1
                                try clear qi1
                                try clear c2
                                try clear c2b0
                                try clear c2b1
                                try clear p2
                                try clear q2
                                try clear hx2
                                try clear c3
                                try clear c3b0
                                try clear c3b1
                                try clear c5
                                try clear c5b0
                                try clear c6
                                try clear c6b0
                                try clear p6
                                try clear p7
                                try clear q7
                                try clear hx7
                                try clear c8
                                try clear c8b0
                                try clear c8b1
                                try clear c9
                                try clear c9b0
                                try clear c9b1
                                try clear c10
                                try clear c10b0
                                try clear c10b1
                                try clear c12
                                try clear c12b0
                                try clear c12b1
                                try clear c13
                                try clear c13b0
                                try clear c13b1
                                try clear c15
                                try clear c15b0
                                try clear c15b1
                                try clear c16
                                try clear c16b0
                                try clear c16b1
                                try clear p17
                                try clear q17
                                try clear hx17
                                try clear qi17
                                try clear c18
                                try clear c18b0
                                try clear c18b1
                                try clear c19
                                try clear c19b0
                                try clear c19b1
                                try clear c21
                                try clear c21b0
                                try clear c21b1
                                try clear c23
                                try clear c23b0
                                try clear c24
                                try clear c24b0
                                try clear p25
                                try clear q25
                                try clear hx25
                                try clear c26
                                try clear c26b0
                                try clear c26b1
                                try clear c27
                                try clear c27b0
                                try clear c28
                                try clear c28b0
                                try clear c28b1
                                try clear c30
                                try clear c30b0
                                try clear c30b1
                                try clear p1
                                try clear p17
                                try clear p2
                                try clear p25
                                try clear p6
                                try clear p7
                                try clear q1
                                try clear q17
                                try clear q2
                                try clear q25
                                try clear q7
                                obtain ⟨kq, x64_28, rfl, HA, HJ28, HB⟩ := hcut
                                cases kq with
                                | zero => exact absurd HA.out (by simp [spec_ReadPriority.j7])
                                | succ kj28 =>
                                  have H := HA.out
                                  clear HA
                                  simp only [spec_ReadPriority.j7] at H
                                  by_cases c31 : x64_28 = true
                                  · subst c31
                                    have H1 : (spec_ReadPriority.l0 kj28 (x0_1.extract ((ji11) : Int).toNat x0_1.size) x4_1 true) = some (r1, r2) := by rw [if_pos rfl] at H; exact H
                                    clear H
                                    have H := H1
                                    clear H1
                                    have H' := Aside0.mk H
                                    clear H
                                    go_wp2
                                    go_roundg kj28
                                    case measure => have := HK1.out; have := HJ3.out; have := HJ13.out; have := HJ19.out; have := HJ28.out; omega
                                    case rel => exact ⟨((x0_1.extract ((ji11) : Int).toNat x0_1.size)), (x4_1), (true), (by first | rfl | (simp; done) | (simp only [← hji11] <;> (first | rfl | simp)) | (simp [*]; done)), (by first | rfl | (simp; done) | (simp [*]; done)), (by first | rfl | (simp; done) | (simp [*]; done)), H', ⟨by have := HK1.out; have := HJ3.out; have := HJ13.out; have := HJ19.out; have := HJ28.out; omega⟩, ⟨by repeat (first | (with_reducible first | exact HB.out | apply below_alloc | apply pw_below_drewN | apply below_drew1) | exact HB.out)⟩⟩
                                  · replace c31 := Bool.eq_false_iff.mpr c31
                                    subst c31
                                    have H1 : (if x7_19.toList = ([105, 61, 63, 48] : List UInt8) then (spec_ReadPriority.l0 kj28 (x0_1.extract ((ji11) : Int).toNat x0_1.size) x4_1 false) else (if (x7_19.size : Int) = 3 then (if 0 ≤ 2 then (if 2 ≤ (x7_19.size : Int) then (if (x7_19.extract 0 2).toList = ([117, 61] : List UInt8) then (if 2 < (x7_19.size : Int) then (if (bt x7_19 2) ≥ 48 then (if (bt x7_19 2) ≤ 55 then (spec_ReadPriority.l0 kj28 (x0_1.extract ((ji11) : Int).toNat x0_1.size) (((bt x7_19 2) - 48) % 256) x5_1) else (spec_ReadPriority.l0 kj28 (x0_1.extract ((ji11) : Int).toNat x0_1.size) x4_1 x5_1)) else (spec_ReadPriority.l0 kj28 (x0_1.extract ((ji11) : Int).toNat x0_1.size) x4_1 x5_1)) else (none)) else (spec_ReadPriority.l0 kj28 (x0_1.extract ((ji11) : Int).toNat x0_1.size) x4_1 x5_1)) else (none)) else (none)) else (spec_ReadPriority.l0 kj28 (x0_1.extract ((ji11) : Int).toNat x0_1.size) x4_1 x5_1))) = some (r1, r2) := by rw [if_neg (show ¬ (false = true) by decide)] at H; exact H
                                    clear H
                                    have H := H1
                                    clear H1
                                    by_cases c32 : x7_19.toList = ([105, 61, 63, 48] : List UInt8)
                                    · rw [if_pos c32] at H
                                      have c32b0 : (x7_19.toList == ([105, 61, 63, 48] : List UInt8)) = true := beq_iff_eq.mpr c32
                                      have c32b1 : (x7_19.toList != ([105, 61, 63, 48] : List UInt8)) = false := bne_eq_false_iff_eq.mpr c32
                                      clear c32
                                      have H' := Aside0.mk H
                                      clear H
                                      go_wp2
                                      go_roundg kj28
                                      case measure => have := HK1.out; have := HJ3.out; have := HJ13.out; have := HJ19.out; have := HJ28.out; omega
                                      case rel => exact ⟨((x0_1.extract ((ji11) : Int).toNat x0_1.size)), (x4_1), (false), (by first | rfl | (simp; done) | (simp only [← hji11] <;> (first | rfl | simp)) | (simp [*]; done)), (by first | rfl | (simp; done) | (simp [*]; done)), (by first | rfl | (simp; done) | (simp [*]; done)), H', ⟨by have := HK1.out; have := HJ3.out; have := HJ13.out; have := HJ19.out; have := HJ28.out; omega⟩, ⟨by repeat (first | (with_reducible first | exact HB.out | apply below_alloc | apply pw_below_drewN | apply below_drew1) | exact HB.out)⟩⟩
                                    · rw [if_neg c32] at H
                                      have c32b0 : (x7_19.toList == ([105, 61, 63, 48] : List UInt8)) = false := beq_eq_false_iff_ne.mpr c32
                                      have c32b1 : (x7_19.toList != ([105, 61, 63, 48] : List UInt8)) = true := bne_iff_ne.mpr c32
                                      by_cases c33 : (x7_19.size : Int) = 3
                                      · rw [if_pos c33] at H
                                        have c33b0 : ((x7_19.size : Int) == 3) = true := beq_iff_eq.mpr c33
                                        have c33b1 : ((x7_19.size : Int) != 3) = false := bne_eq_false_iff_eq.mpr c33
                                        clear c33
                                        by_cases c34 : 0 ≤ 2
                                        · rw [if_pos c34] at H
                                          have c34b0 := eq_true c34
                                          have c34b1 : decide (0 ≤ 2) = true := decide_eq_true c34
                                          clear c34
                                          by_cases c35 : 2 ≤ (x7_19.size : Int)
                                          · rw [if_pos c35] at H
                                            have c35b0 := eq_true c35
                                            have c35b1 : decide (2 ≤ (x7_19.size : Int)) = true := decide_eq_true c35
                                            clear c35
                                            by_cases c36 : (x7_19.extract 0 2).toList = ([117, 61] : List UInt8)
                                            · rw [if_pos c36] at H
                                              have c36b0 : ((x7_19.extract 0 2).toList == ([117, 61] : List UInt8)) = true := beq_iff_eq.mpr c36
                                              have c36b1 : ((x7_19.extract 0 2).toList != ([117, 61] : List UInt8)) = false := bne_eq_false_iff_eq.mpr c36
                                              clear c36
                                              by_cases c37 : 2 < (x7_19.size : Int)
                                              · rw [if_pos c37] at H
                                                have c37b0 : decide (2 < (x7_19.size : Int)) = true := decide_eq_true c37
                                                have c37b1 : decide (2 < x7_19.size) = true := decide_eq_true (by omega)
                                                clear c37
                                                by_cases c39 : (bt x7_19 2) ≥ 48
                                                · rw [if_pos c39] at H
                                                  have c39b0 : decide (48 ≤ (bt x7_19 2)) = true := decide_eq_true c39
                                                  clear c39
                                                  by_cases c41 : (bt x7_19 2) ≤ 55
                                                  · rw [if_pos c41] at H
                                                    have c41b0 : decide ((bt x7_19 2) ≤ 55) = true := decide_eq_true c41
                                                    clear c41
                                                    have H' := Aside0.mk H
                                                    clear H
                                                    have p38 : 0 ≤ (2 : Int) := (by omega)
                                                    have q38 : 2 < x7_19.size := (by have : (2 : Int) < (x7_19.size : Int) := of_decide_eq_true (by first | (with_reducible assumption) | assumption); omega)
                                                    have hx38 : ∀ h : 2 < x7_19.size, ((x7_19[2]'h).toNat : Int) = bt x7_19 2 := bt_at x7_19 2
                                                    clear p38
                                                    have qi38 : (2 < (x7_19.size : Int)) = True := eq_true (of_decide_eq_true (by first | (with_reducible assumption) | assumption))
                                                    replace q38 := eq_true q38
                                                    have p40 : 0 ≤ (2 : Int) := (by omega)
                                                    have q40 : 2 < x7_19.size := (by have : (2 : Int) < (x7_19.size : Int) := of_decide_eq_true (by first | (with_reducible assumption) | assumption); omega)
                                                    have hx40 : ∀ h : 2 < x7_19.size, ((x7_19[2]'h).toNat : Int) = bt x7_19 2 := bt_at x7_19 2
                                                    clear p40
                                                    have qi40 : (2 < (x7_19.size : Int)) = True := eq_true (of_decide_eq_true (by first | (with_reducible assumption) | assumption))
                                                    replace q40 := eq_true q40
                                                    have p42 : 0 ≤ (2 : Int) := (by omega)
                                                    have q42 : 2 < x7_19.size := (by have : (2 : Int) < (x7_19.size : Int) := of_decide_eq_true (by first | (with_reducible assumption) | assumption); omega)
                                                    have hx42 : ∀ h : 2 < x7_19.size, ((x7_19[2]'h).toNat : Int) = bt x7_19 2 := bt_at x7_19 2
                                                    clear p42
                                                    have qi42 : (2 < (x7_19.size : Int)) = True := eq_true (of_decide_eq_true (by first | (with_reducible assumption) | assumption))
                                                    replace q42 := eq_true q42
                                                    go_wp2
                                                    go_roundg kj28
                                                    case measure => have := HK1.out; have := HJ3.out; have := HJ13.out; have := HJ19.out; have := HJ28.out; omega
                                                    case rel => exact ⟨((x0_1.extract ((ji11) : Int).toNat x0_1.size)), (((bt x7_19 2) - 48) % 256), (x5_1), (by first | rfl | (simp; done) | (simp only [← hji11] <;> (first | rfl | simp)) | (simp [*]; done)), (by first | rfl | (simp; done) | (simp [*]; done)), (by first | rfl | (simp; done) | (simp [*]; done)), H', ⟨by have := HK1.out; have := HJ3.out; have := HJ13.out; have := HJ19.out; have := HJ28.out; omega⟩, ⟨by repeat (first | (with_reducible first | exact HB.out | apply below_alloc | apply pw_below_drewN | apply below_drew1) | exact HB.out)⟩⟩
                                                  · rw [if_neg c41] at H
                                                    have c41b0 : decide ((bt x7_19 2) ≤ 55) = false := decide_eq_false c41
                                                    clear c41
                                                    have H' := Aside0.mk H
                                                    clear H
                                                    have p38 : 0 ≤ (2 : Int) := (by omega)
                                                    have q38 : 2 < x7_19.size := (by have : (2 : Int) < (x7_19.size : Int) := of_decide_eq_true (by first | (with_reducible assumption) | assumption); omega)
                                                    have hx38 : ∀ h : 2 < x7_19.size, ((x7_19[2]'h).toNat : Int) = bt x7_19 2 := bt_at x7_19 2
                                                    clear p38
                                                    have qi38 : (2 < (x7_19.size : Int)) = True := eq_true (of_decide_eq_true (by first | (with_reducible assumption) | assumption))
                                                    replace q38 := eq_true q38
                                                    have p40 : 0 ≤ (2 : Int) := (by omega)
                                                    have q40 : 2 < x7_19.size := (by have : (2 : Int) < (x7_19.size : Int) := of_decide_eq_true (by first | (with_reducible assumption) | assumption); omega)
                                                    have hx40 : ∀ h : 2 < x7_19.size, ((x7_19[2]'h).toNat : Int) = bt x7_19 2 := bt_at x7_19 2
                                                    clear p40
                                                    have qi40 : (2 < (x7_19.size : Int)) = True := eq_true (of_decide_eq_true (by first | (with_reducible assumption) | assumption))
                                                    replace q40 := eq_true q40
                                                    go_wp2
                                                    go_roundg kj28
                                                    case measure => have := HK1.out; have := HJ3.out; have := HJ13.out; have := HJ19.out; have := HJ28.out; omega
                                                    case rel => exact ⟨((x0_1.extract ((ji11) : Int).toNat x0_1.size)), (x4_1), (x5_1), (by first | rfl | (simp; done) | (simp only [← hji11] <;> (first | rfl | simp)) | (simp [*]; done)), (by first | rfl | (simp; done) | (simp [*]; done)), (by first | rfl | (simp; done) | (simp [*]; done)), H', ⟨by have := HK1.out; have := HJ3.out; have := HJ13.out; have := HJ19.out; have := HJ28.out; omega⟩, ⟨by repeat (first | (with_reducible first | exact HB.out | apply below_alloc | apply pw_below_drewN | apply below_drew1) | exact HB.out)⟩⟩
                                                · rw [if_neg c39] at H
                                                  have c39b0 : decide (48 ≤ (bt x7_19 2)) = false := decide_eq_false c39
                                                  clear c39
                                                  have H' := Aside0.mk H
                                                  clear H
                                                  have p38 : 0 ≤ (2 : Int) := (by omega)
                                                  have q38 : 2 < x7_19.size := (by have : (2 : Int) < (x7_19.size : Int) := of_decide_eq_true (by first | (with_reducible assumption) | assumption); omega)
                                                  have hx38 : ∀ h : 2 < x7_19.size, ((x7_19[2]'h).toNat : Int) = bt x7_19 2 := bt_at x7_19 2
                                                  clear p38
                                                  have qi38 : (2 < (x7_19.size : Int)) = True := eq_true (of_decide_eq_true (by first | (with_reducible assumption) | assumption))
                                                  replace q38 := eq_true q38
                                                  go_wp2
                                                  go_roundg kj28
                                                  case measure => have := HK1.out; have := HJ3.out; have := HJ13.out; have := HJ19.out; have := HJ28.out; omega
                                                  case rel => exact ⟨((x0_1.extract ((ji11) : Int).toNat x0_1.size)), (x4_1), (x5_1), (by first | rfl | (simp; done) | (simp only [← hji11] <;> (first | rfl | simp)) | (simp [*]; done)), (by first | rfl | (simp; done) | (simp [*]; done)), (by first | rfl | (simp; done) | (simp [*]; done)), H', ⟨by have := HK1.out; have := HJ3.out; have := HJ13.out; have := HJ19.out; have := HJ28.out; omega⟩, ⟨by repeat (first | (with_reducible first | exact HB.out | apply below_alloc | apply pw_below_drewN | apply below_drew1) | exact HB.out)⟩⟩
                                              · rw [if_neg c37] at H
                                                exact absurd H (by simp)
                                            · rw [if_neg c36] at H
                                              have c36b0 : ((x7_19.extract 0 2).toList == ([117, 61] : List UInt8)) = false := beq_eq_false_iff_ne.mpr c36
                                              have c36b1 : ((x7_19.extract 0 2).toList != ([117, 61] : List UInt8)) = true := bne_iff_ne.mpr c36
                                              have H' := Aside0.mk H
                                              clear H
                                              go_wp2
                                              go_roundg kj28
                                              case measure => have := HK1.out; have := HJ3.out; have := HJ13.out; have := HJ19.out; have := HJ28.out; omega
                                              case rel => exact ⟨((x0_1.extract ((ji11) : Int).toNat x0_1.size)), (x4_1), (x5_1), (by first | rfl | (simp; done) | (simp only [← hji11] <;> (first | rfl | simp)) | (simp [*]; done)), (by first | rfl | (simp; done) | (simp [*]; done)), (by first | rfl | (simp; done) | (simp [*]; done)), H', ⟨by have := HK1.out; have := HJ3.out; have := HJ13.out; have := HJ19.out; have := HJ28.out; omega⟩, ⟨by repeat (first | (with_reducible first | exact HB.out | apply below_alloc | apply pw_below_drewN | apply below_drew1) | exact HB.out)⟩⟩
                                          · rw [if_neg c35] at H
                                            exact absurd H (by simp)
                                        · rw [if_neg c34] at H
                                          exact absurd H (by simp)
                                      · rw [if_neg c33] at H
                                        have c33b0 : ((x7_19.size : Int) == 3) = false := beq_eq_false_iff_ne.mpr c33
                                        have c33b1 : ((x7_19.size : Int) != 3) = true := bne_iff_ne.mpr c33
                                        have H' := Aside0.mk H
                                        clear H
                                        go_wp2
                                        go_roundg kj28
                                        case measure => have := HK1.out; have := HJ3.out; have := HJ13.out; have := HJ19.out; have := HJ28.out; omega
                                        case rel => exact ⟨((x0_1.extract ((ji11) : Int).toNat x0_1.size)), (x4_1), (x5_1), (by first | rfl | (simp; done) | (simp only [← hji11] <;> (first | rfl | simp)) | (simp [*]; done)), (by first | rfl | (simp; done) | (simp [*]; done)), (by first | rfl | (simp; done) | (simp [*]; done)), H', ⟨by have := HK1.out; have := HJ3.out; have := HJ13.out; have := HJ19.out; have := HJ28.out; omega⟩, ⟨by repeat (first | (with_reducible first | exact HB.out | apply below_alloc | apply pw_below_drewN | apply below_drew1) | exact HB.out)⟩⟩
                    · rw [if_neg c13] at H
                      exact absurd H (by simp)
                  · rw [if_neg c12] at H
                    exact absurd H (by simp)
                · rw [if_neg c10] at H
                  exact absurd H (by simp)
              · rw [if_neg c9] at H
                exact absurd H (by simp)
        · rw [if_neg c3] at H
          have c3b0 : decide (0 < (x0_1.size : Int)) = false := decide_eq_false c3
          have c3b1 : decide (0 < x0_1.size) = false := decide_eq_false (by omega)
          clear c3
          simp only [Option.some.injEq, Prod.mk.injEq] at H
          obtain ⟨rfl, rfl⟩ := H
          go_wp2
          go_ret2
          exact ⟨by first | rfl | (simp [errW_none, errW_some] <;> rfl) | (simp [*, errW_none, errW_some] <;> rfl), by repeat (first | (with_reducible first | exact HB.out | apply below_alloc | apply pw_below_drewN | apply below_drew1) | exact HB.out)⟩

end Go.Proofs.YtkcimmlaoipdkaaDoor.PFnPriority
