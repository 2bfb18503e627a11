-- Written by a program of this repo (xprint.py) out of the translation; Lean checks it.
import Derived.Test.YtkcimmlaoipdkaaDoorPFnPriorityx0
namespace Go.Proofs.YtkcimmlaoipdkaaDoor.PFnPriority
open Go.RowKit Go.Proofs.YtkcimmlaoipdkaaDoorW.PrintWords Go.Proofs.YtkcimmlaoipdkaaDoorW.PrintLast Go.Proofs.YtkcimmlaoipdkaaDoorW.PrintMore
attribute [local go_sem] max2_int min2_int max_two min_two max_three min_three max_four min_four   -- for this text's walks alone
set_option linter.unusedVariables false
set_option linter.unusedSimpArgs false

/-! ### strconv_Itoa: function 41 -/
def strconv_Itoa.f (n : Int) : Option ByteArray := if 0 ≤ n ∧ n < 100 then some ⟨(Go.Lib.decDigits n.toNat).toArray⟩ else none
theorem strconv_Itoa.calls (n : Int) (r : ByteArray) (w : World) (h : strconv_Itoa.f n = some r) :
    Calls Tryd.prog 41 #[.int .i64 n] w fun e w' => e = .returned (.string r) ∧ Drawn0 w w' := by
  unfold strconv_Itoa.f at h
  by_cases hc : 0 ≤ n ∧ n < 100
  · rw [if_pos hc] at h
    obtain rfl := Option.some.inj h
    obtain ⟨i, rfl⟩ : ∃ i : Nat, n = (i : Int) := ⟨n.toNat, by omega⟩
    refine (Tryd.strconv_Itoa_small i (by omega) w).mono ?_
    rintro e w' ⟨rfl, rfl⟩
    exact ⟨rfl, Drawn0.refl _⟩
  · rw [if_neg hc] at h
    exact absurd h (by simp)

/-! ### impl_PriorityText: function 12 -/
def impl_PriorityText.j0 : Nat → Int → Bool → Bool → Option (ByteArray)
  | 0, _, _, _ => none
  | k + 1, x0, x1, x11 => if x11 = true then (some (⟨#[]⟩ : ByteArray)) else ((strconv_Itoa.f x0).bind fun t101 => (if 2 + t101.size ≤ 9223372036854775807 then (if x1 = true then (if ((⟨#[117, 61]⟩ : ByteArray) ++ t101).size + 3 ≤ 9223372036854775807 then (some (((⟨#[117, 61]⟩ : ByteArray) ++ t101) ++ (⟨#[44, 32, 105]⟩ : ByteArray))) else (none)) else (some ((⟨#[117, 61]⟩ : ByteArray) ++ t101))) else (none)))
def impl_PriorityText.f (k : Nat) (a0 : Int) (a1 : Bool) : Option (ByteArray) := if a0 < 0 then (impl_PriorityText.j0 k a0 a1 true) else (impl_PriorityText.j0 k a0 a1 (decide (a0 > 7)))
theorem impl_PriorityText.mono_l : ∀ k, (∀ y0 y1 y2, LeO (impl_PriorityText.j0 k y0 y1 y2) (impl_PriorityText.j0 (k + 1) y0 y1 y2))
  | 0 => fun _ _ _ r h => by simp [impl_PriorityText.j0] at h
  | k + 1 => by
    have ih0 := impl_PriorityText.mono_l k
    · intro y0 y1 y2
      unfold impl_PriorityText.j0
      repeat' first
      | (with_reducible exact ih0 _ _ _)
      | (with_reducible exact LeO.refl _)
      | (with_reducible exact LeO.none _)
      | (with_reducible refine LeO.ite ?_ ?_)
      | (with_reducible refine LeO.bind ?_ (fun _ => ?_))
      | exact ih0 _ _ _
      | exact LeO.none _
      | refine LeO.ite ?_ ?_
      | refine LeO.bind ?_ (fun _ => ?_)
theorem impl_PriorityText.mono : ∀ a0 a1 k, LeO (impl_PriorityText.f k a0 a1) (impl_PriorityText.f (k + 1) a0 a1) := by
  intro a0 a1 k
  have ih0 := impl_PriorityText.mono_l k
  unfold impl_PriorityText.f
  repeat' first
      | (with_reducible exact ih0 _ _ _)
      | (with_reducible exact LeO.refl _)
      | (with_reducible exact LeO.none _)
      | (with_reducible refine LeO.ite ?_ ?_)
      | (with_reducible refine LeO.bind ?_ (fun _ => ?_))
      | exact ih0 _ _ _
      | exact LeO.none _
      | refine LeO.ite ?_ ?_
      | refine LeO.bind ?_ (fun _ => ?_)
set_option maxHeartbeats 8000000 in
set_option maxRecDepth 100000 in
theorem impl_PriorityText.calls (k : Nat) (a0 : Int) (a1 : Bool) (r : ByteArray) (w : World) (h : impl_PriorityText.f k a0 a1 = some r) :
    Calls Tryd.prog 12 #[.int .i64 a0, .bool a1] w fun e w' => e = .returned (.string r) ∧ Drawn0 w w' := by
  have H : (if a0 < 0 then (impl_PriorityText.j0 k a0 a1 true) else (impl_PriorityText.j0 k a0 a1 (decide (a0 > 7)))) = some r := h
  clear h
  have HC3 := Aside0.mk H
  clear H
  go_enter Tryd.func12, Tryd.ntmps12
  go_upto_region 1 with (fail)
  go_cut [11] (fun v11 wc => ∃ (kq : Nat) (x11_2 : Bool), v11 = .bool x11_2 ∧ Aside0 (impl_PriorityText.j0 kq a0 a1 x11_2 = some r) ∧ Aside0 (kq ≤ k) ∧ Drawn0 w wc)
  case first =>
    have H := HC3.out
    clear HC3
    by_cases c4 : a0 < 0
    · rw [if_pos c4] at H
      have c4b0 : decide (a0 < 0) = true := decide_eq_true c4
      clear c4
      (first | rw [c4b0] | (simp only [i64_w, i32_w]; rw [c4b0]) | skip)
      have H' := Aside0.mk H
      clear H
      go_wp2
      go_meet
      case rel => exact ⟨_, (true), (by first | rfl | (simp; done) | (simp [*]; done)), H', ⟨by first | omega | exact Nat.le_refl _⟩, by repeat (first | exact Drawn0.refl _ | apply Drawn0.step)⟩
    · rw [if_neg c4] at H
      have c4b0 : decide (a0 < 0) = false := decide_eq_false c4
      clear c4
      (first | rw [c4b0] | (simp only [i64_w, i32_w]; rw [c4b0]) | skip)
      have H' := Aside0.mk H
      clear H
      go_wp2
      go_meet
      case rel => exact ⟨_, (decide (a0 > 7)), (by first | rfl | (simp; done) | (simp [*]; done)), H', ⟨by first | omega | exact Nat.le_refl _⟩, by repeat (first | exact Drawn0.refl _ | apply Drawn0.step)⟩
  case rest =>
    clear HC3
    try clear c1
    try clear p2
    try clear c4
    try clear c4b0
    obtain ⟨kq, x11_2, rfl, HA, HJ2, ⟨mc2, rfl⟩⟩ := hcut
    cases kq with
    | zero => exact absurd HA.out (by simp [impl_PriorityText.j0])
    | succ kj2 =>
      have H := HA.out
      clear HA
      simp only [impl_PriorityText.j0] at H
      by_cases c5 : x11_2 = true
      · subst c5
        have H1 : (some (⟨#[]⟩ : ByteArray)) = some r := by rw [if_pos rfl] at H; exact H
        clear H
        have H := H1
        clear H1
        obtain rfl := Option.some.inj H
        go_wp2
        go_ret
        exact ⟨by first | rfl | (simp; done) | (simp [*]; done), by repeat (first | exact Drawn0.refl _ | apply Drawn0.step)⟩
      · replace c5 := Bool.eq_false_iff.mpr c5
        subst c5
        have H1 : ((strconv_Itoa.f a0).bind fun t101 => (if 2 + t101.size ≤ 9223372036854775807 then (if a1 = true then (if ((⟨#[117, 61]⟩ : ByteArray) ++ t101).size + 3 ≤ 9223372036854775807 then (some (((⟨#[117, 61]⟩ : ByteArray) ++ t101) ++ (⟨#[44, 32, 105]⟩ : ByteArray))) else (none)) else (some ((⟨#[117, 61]⟩ : ByteArray) ++ t101))) else (none))) = some r := by rw [if_neg (show ¬ (false = true) by decide)] at H; exact H
        clear H
        have H := H1
        clear H1
        replace H := Option.bind_eq_some_iff.mp H
        obtain ⟨t101, A60, H⟩ := H
        replace H : (if 2 + t101.size ≤ 9223372036854775807 then (if a1 = true then (if ((⟨#[117, 61]⟩ : ByteArray) ++ t101).size + 3 ≤ 9223372036854775807 then (some (((⟨#[117, 61]⟩ : ByteArray) ++ t101) ++ (⟨#[44, 32, 105]⟩ : ByteArray))) else (none)) else (some ((⟨#[117, 61]⟩ : ByteArray) ++ t101))) else (none)) = some r := H
        have A6 := Aside0.mk A60
        clear A60
        by_cases c7 : 2 + t101.size ≤ 9223372036854775807
        · rw [if_pos c7] at H
          have c7b0 := eq_true c7
          have c7b1 : decide (2 + t101.size ≤ 9223372036854775807) = true := decide_eq_true c7
          try have c7b2 : (9223372036854775807 < 2 + t101.size) = False := eq_false (Nat.not_lt.2 c7)
          by_cases c8 : a1 = true
          · subst c8
            have H1 : (if ((⟨#[117, 61]⟩ : ByteArray) ++ t101).size + 3 ≤ 9223372036854775807 then (some (((⟨#[117, 61]⟩ : ByteArray) ++ t101) ++ (⟨#[44, 32, 105]⟩ : ByteArray))) else (none)) = some r := by rw [if_pos rfl] at H; exact H
            clear H
            have H := H1
            clear H1
            by_cases c9 : ((⟨#[117, 61]⟩ : ByteArray) ++ t101).size + 3 ≤ 9223372036854775807
            · rw [if_pos c9] at H
              have c9b0 := eq_true c9
              have c9b1 : decide (((⟨#[117, 61]⟩ : ByteArray) ++ t101).size + 3 ≤ 9223372036854775807) = true := decide_eq_true c9
              try have c9b2 : (9223372036854775807 < ((⟨#[117, 61]⟩ : ByteArray) ++ t101).size + 3) = False := eq_false (Nat.not_lt.2 c9)
              try (have c9b3 := c9b2; rw [ByteArray.size_append] at c9b3; change (9223372036854775807 < 2 + _ + 3) = False at c9b3)
              try (have c9b3 := c9b2; rw [ByteArray.size_append] at c9b3; change (9223372036854775807 < 2 + _ + 3) = False at c9b3)
              obtain rfl := Option.some.inj H
              go_wp2_with (first | ((with_reducible refine gate_callee (f := 41) rfl ?_); refine goesL_ (some 13) rfl rfl Tryd.func41 (by kernel_rfl) rfl #[.int .i64 a0] rfl (by (try simp only [List.map_toArray, List.map_cons, List.map_nil]); first | done | rfl | (simp only [List.length_drop, List.length_take]; rfl)) ?_; (with_reducible refine (strconv_Itoa.calls a0 t101 _ A6.out).mono ?_); rintro e w' ⟨rfl, ⟨nd, rfl⟩⟩; refine ⟨_, rfl, ?_⟩))
              go_ret
              exact ⟨by first | rfl | (simp; done) | (simp [*]; done), by repeat (first | exact Drawn0.refl _ | apply Drawn0.step)⟩
            · rw [if_neg c9] at H
              exact absurd H (by simp)
          · replace c8 := Bool.eq_false_iff.mpr c8
            subst c8
            have H1 : (some ((⟨#[117, 61]⟩ : ByteArray) ++ t101)) = some r := by rw [if_neg (show ¬ (false = true) by decide)] at H; exact H
            clear H
            have H := H1
            clear H1
            obtain rfl := Option.some.inj H
            go_wp2_with (first | ((with_reducible refine gate_callee (f := 41) rfl ?_); refine goesL_ (some 13) rfl rfl Tryd.func41 (by kernel_rfl) rfl #[.int .i64 a0] rfl (by (try simp only [List.map_toArray, List.map_cons, List.map_nil]); first | done | rfl | (simp only [List.length_drop, List.length_take]; rfl)) ?_; (with_reducible refine (strconv_Itoa.calls a0 t101 _ A6.out).mono ?_); rintro e w' ⟨rfl, ⟨nd, rfl⟩⟩; refine ⟨_, rfl, ?_⟩))
            go_ret
            exact ⟨by first | rfl | (simp; done) | (simp [*]; done), by repeat (first | exact Drawn0.refl _ | apply Drawn0.step)⟩
        · rw [if_neg c7] at H
          exact absurd H (by simp)

end Go.Proofs.YtkcimmlaoipdkaaDoor.PFnPriority
