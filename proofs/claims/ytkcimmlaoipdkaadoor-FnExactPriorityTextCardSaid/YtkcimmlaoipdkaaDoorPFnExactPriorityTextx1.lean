-- Written by a program of this repo (xprint.py) out of the translation; Lean checks it.
import Derived.Test.YtkcimmlaoipdkaaDoorPFnExactPriorityTextx0
namespace Go.Proofs.YtkcimmlaoipdkaaDoor.PFnExactPriorityText
open Go.RowKit Go.Proofs.YtkcimmlaoipdkaaDoorW.PrintWords Go.Proofs.YtkcimmlaoipdkaaDoorW.PrintLast Go.Proofs.YtkcimmlaoipdkaaDoorW.PrintMore
attribute [local go_sem] max2_int min2_int max_two min_two max_three min_three max_four min_four   -- for this text's walks alone
set_option linter.unusedVariables false
set_option linter.unusedSimpArgs false

/-! ### spec_PriorityText: function 11 -/
def spec_PriorityText.j0 : Nat → Int → Bool → Bool → Option (ByteArray)
  | 0, _, _, _ => none
  | k + 1, x0, x1, x11 => if x11 = true then (some (⟨#[]⟩ : ByteArray)) else ((some (([(wrap64 (48 + x0)) % 256] : List Int) : List Int)).bind fun y101 => (if 2 + (strOfNums y101).size ≤ 9223372036854775807 then (if x1 = true then (if ((⟨#[117, 61]⟩ : ByteArray) ++ (strOfNums y101)).size + 3 ≤ 9223372036854775807 then (some (((⟨#[117, 61]⟩ : ByteArray) ++ (strOfNums y101)) ++ (⟨#[44, 32, 105]⟩ : ByteArray))) else (none)) else (some ((⟨#[117, 61]⟩ : ByteArray) ++ (strOfNums y101)))) else (none)))
def spec_PriorityText.f (k : Nat) (a0 : Int) (a1 : Bool) : Option (ByteArray) := if a0 < 0 then (spec_PriorityText.j0 k a0 a1 true) else (spec_PriorityText.j0 k a0 a1 (decide (a0 > 7)))
theorem spec_PriorityText.mono_l : ∀ k, (∀ y0 y1 y2, LeO (spec_PriorityText.j0 k y0 y1 y2) (spec_PriorityText.j0 (k + 1) y0 y1 y2))
  | 0 => fun _ _ _ r h => by simp [spec_PriorityText.j0] at h
  | k + 1 => by
    have ih0 := spec_PriorityText.mono_l k
    · intro y0 y1 y2
      unfold spec_PriorityText.j0
      repeat' first
      | (with_reducible exact ih0 _ _ _)
      | (with_reducible exact LeO.refl _)
      | (with_reducible exact LeO.none _)
      | (with_reducible refine LeO.ite ?_ ?_)
      | (with_reducible refine LeO.bind ?_ (fun _ => ?_))
      | exact ih0 _ _ _
      | exact LeO.none _
      | refine LeO.ite ?_ ?_
      | refine LeO.bind ?_ (fun _ => ?_)
theorem spec_PriorityText.mono : ∀ a0 a1 k, LeO (spec_PriorityText.f k a0 a1) (spec_PriorityText.f (k + 1) a0 a1) := by
  intro a0 a1 k
  have ih0 := spec_PriorityText.mono_l k
  unfold spec_PriorityText.f
  repeat' first
      | (with_reducible exact ih0 _ _ _)
      | (with_reducible exact LeO.refl _)
      | (with_reducible exact LeO.none _)
      | (with_reducible refine LeO.ite ?_ ?_)
      | (with_reducible refine LeO.bind ?_ (fun _ => ?_))
      | exact ih0 _ _ _
      | exact LeO.none _
      | refine LeO.ite ?_ ?_
      | refine LeO.bind ?_ (fun _ => ?_)
set_option maxHeartbeats 8000000 in
set_option maxRecDepth 100000 in
theorem spec_PriorityText.calls (k : Nat) (a0 : Int) (a1 : Bool) (r : ByteArray) (w : World) (h : spec_PriorityText.f k a0 a1 = some r) :
    Calls Tryd.prog 11 #[.int .i64 a0, .bool a1] w fun e w' => e = .returned (.string r) ∧ Below w.heap.size w w' := by
  have HB := Aside0.mk (Below.refl w.heap.size w)
  have H : (if a0 < 0 then (spec_PriorityText.j0 k a0 a1 true) else (spec_PriorityText.j0 k a0 a1 (decide (a0 > 7)))) = some r := h
  clear h
  have HC3 := Aside0.mk H
  clear H
  go_enter Tryd.func11, Tryd.ntmps11
  go_upto_region 1 with (fail)
  go_cut [11] (fun v11 wc => ∃ (kq : Nat) (x11_2 : Bool), v11 = .bool x11_2 ∧ Aside0 (spec_PriorityText.j0 kq a0 a1 x11_2 = some r) ∧ Aside0 (kq ≤ k) ∧ Aside0 (Below w.heap.size w wc))
  case first =>
    have H := HC3.out
    clear HC3
    by_cases c4 : a0 < 0
    · rw [if_pos c4] at H
      have c4b0 : decide (a0 < 0) = true := decide_eq_true c4
      clear c4
      (first | rw [c4b0] | (simp only [i64_w, i32_w]; rw [c4b0]) | skip)
      have H' := Aside0.mk H
      clear H
      go_wp2
      go_meet
      case rel => exact ⟨_, (true), (by first | rfl | (simp; done) | (simp [*]; done)), H', ⟨by first | omega | exact Nat.le_refl _⟩, ⟨by repeat (first | (with_reducible first | exact HB.out | apply below_alloc | apply pw_below_drewN | apply below_drew1) | exact HB.out)⟩⟩
    · rw [if_neg c4] at H
      have c4b0 : decide (a0 < 0) = false := decide_eq_false c4
      clear c4
      (first | rw [c4b0] | (simp only [i64_w, i32_w]; rw [c4b0]) | skip)
      have H' := Aside0.mk H
      clear H
      go_wp2
      go_meet
      case rel => exact ⟨_, (decide (a0 > 7)), (by first | rfl | (simp; done) | (simp [*]; done)), H', ⟨by first | omega | exact Nat.le_refl _⟩, ⟨by repeat (first | (with_reducible first | exact HB.out | apply below_alloc | apply pw_below_drewN | apply below_drew1) | exact HB.out)⟩⟩
  case rest =>
    clear HC3
    try clear c1
    try clear p2
    try clear c4
    try clear c4b0
    obtain ⟨kq, x11_2, rfl, HA, HJ2, HB⟩ := hcut
    cases kq with
    | zero => exact absurd HA.out (by simp [spec_PriorityText.j0])
    | succ kj2 =>
      have H := HA.out
      clear HA
      simp only [spec_PriorityText.j0] at H
      by_cases c5 : x11_2 = true
      · subst c5
        have H1 : (some (⟨#[]⟩ : ByteArray)) = some r := by rw [if_pos rfl] at H; exact H
        clear H
        have H := H1
        clear H1
        obtain rfl := Option.some.inj H
        go_wp2
        go_ret
        exact ⟨by first | rfl | (simp [errW_none, errW_some] <;> rfl) | (simp [*, errW_none, errW_some] <;> rfl), by repeat (first | (with_reducible first | exact HB.out | apply below_alloc | apply pw_below_drewN | apply below_drew1) | exact HB.out)⟩
      · replace c5 := Bool.eq_false_iff.mpr c5
        subst c5
        have H1 : ((some (([(wrap64 (48 + a0)) % 256] : List Int) : List Int)).bind fun y101 => (if 2 + (strOfNums y101).size ≤ 9223372036854775807 then (if a1 = true then (if ((⟨#[117, 61]⟩ : ByteArray) ++ (strOfNums y101)).size + 3 ≤ 9223372036854775807 then (some (((⟨#[117, 61]⟩ : ByteArray) ++ (strOfNums y101)) ++ (⟨#[44, 32, 105]⟩ : ByteArray))) else (none)) else (some ((⟨#[117, 61]⟩ : ByteArray) ++ (strOfNums y101)))) else (none))) = some r := by rw [if_neg (show ¬ (false = true) by decide)] at H; exact H
        clear H
        have H := H1
        clear H1
        obtain ⟨y101, hy101⟩ : ∃ y_ : List Int, y_ = (([(wrap64 (48 + a0)) % 256] : List Int)) := ⟨_, rfl⟩
        replace H : (if 2 + (strOfNums y101).size ≤ 9223372036854775807 then (if a1 = true then (if ((⟨#[117, 61]⟩ : ByteArray) ++ (strOfNums y101)).size + 3 ≤ 9223372036854775807 then (some (((⟨#[117, 61]⟩ : ByteArray) ++ (strOfNums y101)) ++ (⟨#[44, 32, 105]⟩ : ByteArray))) else (none)) else (some ((⟨#[117, 61]⟩ : ByteArray) ++ (strOfNums y101)))) else (none)) = some r := by first | (rw [hy101]; with_reducible exact H) | (have H2_ := (Option.bind_some _ _).symm.trans H; rw [hy101]; with_reducible exact H2_) | (have H2_ := (Option.bind_some _ _).symm.trans H; with_reducible exact H2_) | with_reducible exact H | (rw [hy101]; exact H) | exact H
        have Ny101 := Aside0.mk hy101
        clear hy101
        by_cases c6 : 2 + (strOfNums y101).size ≤ 9223372036854775807
        · rw [if_pos c6] at H
          have c6b0 := eq_true c6
          have c6b1 : decide (2 + (strOfNums y101).size ≤ 9223372036854775807) = true := decide_eq_true c6
          try have c6b2 : (9223372036854775807 < 2 + (strOfNums y101).size) = False := eq_false (Nat.not_lt.2 c6)
          by_cases c7 : a1 = true
          · subst c7
            have H1 : (if ((⟨#[117, 61]⟩ : ByteArray) ++ (strOfNums y101)).size + 3 ≤ 9223372036854775807 then (some (((⟨#[117, 61]⟩ : ByteArray) ++ (strOfNums y101)) ++ (⟨#[44, 32, 105]⟩ : ByteArray))) else (none)) = some r := by rw [if_pos rfl] at H; exact H
            clear H
            have H := H1
            clear H1
            by_cases c8 : ((⟨#[117, 61]⟩ : ByteArray) ++ (strOfNums y101)).size + 3 ≤ 9223372036854775807
            · rw [if_pos c8] at H
              have c8b0 := eq_true c8
              have c8b1 : decide (((⟨#[117, 61]⟩ : ByteArray) ++ (strOfNums y101)).size + 3 ≤ 9223372036854775807) = true := decide_eq_true c8
              try have c8b2 : (9223372036854775807 < ((⟨#[117, 61]⟩ : ByteArray) ++ (strOfNums y101)).size + 3) = False := eq_false (Nat.not_lt.2 c8)
              try (have c8b3 := c8b2; rw [ByteArray.size_append] at c8b3; change (9223372036854775807 < 2 + _ + 3) = False at c8b3)
              try (have c8b3 := c8b2; rw [ByteArray.size_append] at c8b3; change (9223372036854775807 < 2 + _ + 3) = False at c8b3)
              obtain rfl := Option.some.inj H
              go_wp2_with (first | ((with_reducible refine gate_dst (N := 15) rfl ?_); refine Kd.R_lit (Kd.int .u8) _ 5 ?hg (N := 15) ?hd (xs := ([(wrap64 (48 + a0)) % 256] : List Int)) (inner := [.int .u8 ((wrap64 (48 + a0)) % 256)]) (ok := fun _ => True) (okp := fun _ => True) ?hr ?hp (fun _ hk => hk) trivial (Below.refl _ _) (Nat.le_refl _) (by simp) ?_; (case hd => rfl); (case hg => rfl); (case hr => first | (go_simp; done) | (go_simp; rfl)); (case hp => exact (Reps.one (show Kd.M (Kd.int .u8) _ _ _ ((wrap64 (48 + a0)) % 256) [.int .u8 ((wrap64 (48 + a0)) % 256)] from rfl) (Reps.none _ _))); intro v102 w9 ho10 hb hg_ hnew_; clear hg_ hnew_; (first | rw [← Ny101.out] at ho10 | (simp only [Int.reduceToNat] at ho10; rw [← Ny101.out] at ho10)); have n0_ := Aside0.mk (Kd.R_lower ho10 (below_size (by repeat (first | (with_reducible first | exact HB.out | apply below_alloc | apply pw_below_drewN | apply below_drew1) | exact HB.out)))); have n1_ := Aside0.mk (below_step (by repeat (first | (with_reducible first | exact HB.out | apply below_alloc | apply pw_below_drewN | apply below_drew1) | exact HB.out)) hb); clear HB; have HO103 := n0_; have HB := n1_; clear n0_ n1_; clear hb ho10; have hcv11 := own_string (P := Tryd.prog) Tryd.underlying27 Tryd.underlying5 Tryd.underlying9 (Kd.own_of_R HO103.out)))
              go_ret
              exact ⟨by first | rfl | (simp [errW_none, errW_some] <;> rfl) | (simp [*, errW_none, errW_some] <;> rfl), by repeat (first | (with_reducible first | exact HB.out | apply below_alloc | apply pw_below_drewN | apply below_drew1) | exact HB.out)⟩
            · rw [if_neg c8] at H
              exact absurd H (by simp)
          · replace c7 := Bool.eq_false_iff.mpr c7
            subst c7
            have H1 : (some ((⟨#[117, 61]⟩ : ByteArray) ++ (strOfNums y101))) = some r := by rw [if_neg (show ¬ (false = true) by decide)] at H; exact H
            clear H
            have H := H1
            clear H1
            obtain rfl := Option.some.inj H
            go_wp2_with (first | ((with_reducible refine gate_dst (N := 15) rfl ?_); refine Kd.R_lit (Kd.int .u8) _ 5 ?hg (N := 15) ?hd (xs := ([(wrap64 (48 + a0)) % 256] : List Int)) (inner := [.int .u8 ((wrap64 (48 + a0)) % 256)]) (ok := fun _ => True) (okp := fun _ => True) ?hr ?hp (fun _ hk => hk) trivial (Below.refl _ _) (Nat.le_refl _) (by simp) ?_; (case hd => rfl); (case hg => rfl); (case hr => first | (go_simp; done) | (go_simp; rfl)); (case hp => exact (Reps.one (show Kd.M (Kd.int .u8) _ _ _ ((wrap64 (48 + a0)) % 256) [.int .u8 ((wrap64 (48 + a0)) % 256)] from rfl) (Reps.none _ _))); intro v102 w12 ho13 hb hg_ hnew_; clear hg_ hnew_; (first | rw [← Ny101.out] at ho13 | (simp only [Int.reduceToNat] at ho13; rw [← Ny101.out] at ho13)); have n0_ := Aside0.mk (Kd.R_lower ho13 (below_size (by repeat (first | (with_reducible first | exact HB.out | apply below_alloc | apply pw_below_drewN | apply below_drew1) | exact HB.out)))); have n1_ := Aside0.mk (below_step (by repeat (first | (with_reducible first | exact HB.out | apply below_alloc | apply pw_below_drewN | apply below_drew1) | exact HB.out)) hb); clear HB; have HO103 := n0_; have HB := n1_; clear n0_ n1_; clear hb ho13; have hcv14 := own_string (P := Tryd.prog) Tryd.underlying27 Tryd.underlying5 Tryd.underlying9 (Kd.own_of_R HO103.out)))
            go_ret
            exact ⟨by first | rfl | (simp [errW_none, errW_some] <;> rfl) | (simp [*, errW_none, errW_some] <;> rfl), by repeat (first | (with_reducible first | exact HB.out | apply below_alloc | apply pw_below_drewN | apply below_drew1) | exact HB.out)⟩
        · rw [if_neg c6] at H
          exact absurd H (by simp)

/-! ### strconv_Itoa: function 41 -/
def strconv_Itoa.f (n : Int) : Option ByteArray := if 0 ≤ n ∧ n < 100 then some ⟨(Go.Lib.decDigits n.toNat).toArray⟩ else none
theorem strconv_Itoa.calls (n : Int) (r : ByteArray) (w : World) (h : strconv_Itoa.f n = some r) :
    Calls Tryd.prog 41 #[.int .i64 n] w fun e w' => e = .returned (.string r) ∧ Drawn0 w w' := by
  unfold strconv_Itoa.f at h
  by_cases hc : 0 ≤ n ∧ n < 100
  · rw [if_pos hc] at h
    obtain rfl := Option.some.inj h
    obtain ⟨i, rfl⟩ : ∃ i : Nat, n = (i : Int) := ⟨n.toNat, by omega⟩
    refine (Tryd.strconv_Itoa_small i (by omega) w).mono ?_
    rintro e w' ⟨rfl, rfl⟩
    exact ⟨rfl, Drawn0.refl _⟩
  · rw [if_neg hc] at h
    exact absurd h (by simp)

/-! ### impl_PriorityText: function 12 -/
def impl_PriorityText.j0 : Nat → Int → Bool → Bool → Option (ByteArray)
  | 0, _, _, _ => none
  | k + 1, x0, x1, x11 => if x11 = true then (some (⟨#[]⟩ : ByteArray)) else ((strconv_Itoa.f x0).bind fun t104 => (if 2 + t104.size ≤ 9223372036854775807 then (if x1 = true then (if ((⟨#[117, 61]⟩ : ByteArray) ++ t104).size + 3 ≤ 9223372036854775807 then (some (((⟨#[117, 61]⟩ : ByteArray) ++ t104) ++ (⟨#[44, 32, 105]⟩ : ByteArray))) else (none)) else (some ((⟨#[117, 61]⟩ : ByteArray) ++ t104))) else (none)))
def impl_PriorityText.f (k : Nat) (a0 : Int) (a1 : Bool) : Option (ByteArray) := if a0 < 0 then (impl_PriorityText.j0 k a0 a1 true) else (impl_PriorityText.j0 k a0 a1 (decide (a0 > 7)))
theorem impl_PriorityText.mono_l : ∀ k, (∀ y0 y1 y2, LeO (impl_PriorityText.j0 k y0 y1 y2) (impl_PriorityText.j0 (k + 1) y0 y1 y2))
  | 0 => fun _ _ _ r h => by simp [impl_PriorityText.j0] at h
  | k + 1 => by
    have ih0 := impl_PriorityText.mono_l k
    · intro y0 y1 y2
      unfold impl_PriorityText.j0
      repeat' first
      | (with_reducible exact ih0 _ _ _)
      | (with_reducible exact LeO.refl _)
      | (with_reducible exact LeO.none _)
      | (with_reducible refine LeO.ite ?_ ?_)
      | (with_reducible refine LeO.bind ?_ (fun _ => ?_))
      | exact ih0 _ _ _
      | exact LeO.none _
      | refine LeO.ite ?_ ?_
      | refine LeO.bind ?_ (fun _ => ?_)
theorem impl_PriorityText.mono : ∀ a0 a1 k, LeO (impl_PriorityText.f k a0 a1) (impl_PriorityText.f (k + 1) a0 a1) := by
  intro a0 a1 k
  have ih0 := impl_PriorityText.mono_l k
  unfold impl_PriorityText.f
  repeat' first
      | (with_reducible exact ih0 _ _ _)
      | (with_reducible exact LeO.refl _)
      | (with_reducible exact LeO.none _)
      | (with_reducible refine LeO.ite ?_ ?_)
      | (with_reducible refine LeO.bind ?_ (fun _ => ?_))
      | exact ih0 _ _ _
      | exact LeO.none _
      | refine LeO.ite ?_ ?_
      | refine LeO.bind ?_ (fun _ => ?_)
set_option maxHeartbeats 8000000 in
set_option maxRecDepth 100000 in
theorem impl_PriorityText.calls (k : Nat) (a0 : Int) (a1 : Bool) (r : ByteArray) (w : World) (h : impl_PriorityText.f k a0 a1 = some r) :
    Calls Tryd.prog 12 #[.int .i64 a0, .bool a1] w fun e w' => e = .returned (.string r) ∧ Drawn0 w w' := by
  have H : (if a0 < 0 then (impl_PriorityText.j0 k a0 a1 true) else (impl_PriorityText.j0 k a0 a1 (decide (a0 > 7)))) = some r := h
  clear h
  have HC3 := Aside0.mk H
  clear H
  go_enter Tryd.func12, Tryd.ntmps12
  go_upto_region 1 with (fail)
  go_cut [11] (fun v11 wc => ∃ (kq : Nat) (x11_2 : Bool), v11 = .bool x11_2 ∧ Aside0 (impl_PriorityText.j0 kq a0 a1 x11_2 = some r) ∧ Aside0 (kq ≤ k) ∧ Drawn0 w wc)
  case first =>
    have H := HC3.out
    clear HC3
    by_cases c4 : a0 < 0
    · rw [if_pos c4] at H
      have c4b0 : decide (a0 < 0) = true := decide_eq_true c4
      clear c4
      (first | rw [c4b0] | (simp only [i64_w, i32_w]; rw [c4b0]) | skip)
      have H' := Aside0.mk H
      clear H
      go_wp2
      go_meet
      case rel => exact ⟨_, (true), (by first | rfl | (simp; done) | (simp [*]; done)), H', ⟨by first | omega | exact Nat.le_refl _⟩, by repeat (first | exact Drawn0.refl _ | apply Drawn0.step)⟩
    · rw [if_neg c4] at H
      have c4b0 : decide (a0 < 0) = false := decide_eq_false c4
      clear c4
      (first | rw [c4b0] | (simp only [i64_w, i32_w]; rw [c4b0]) | skip)
      have H' := Aside0.mk H
      clear H
      go_wp2
      go_meet
      case rel => exact ⟨_, (decide (a0 > 7)), (by first | rfl | (simp; done) | (simp [*]; done)), H', ⟨by first | omega | exact Nat.le_refl _⟩, by repeat (first | exact Drawn0.refl _ | apply Drawn0.step)⟩
  case rest =>
    clear HC3
    try clear c1
    try clear p2
    try clear c4
    try clear c4b0
    obtain ⟨kq, x11_2, rfl, HA, HJ2, ⟨mc2, rfl⟩⟩ := hcut
    cases kq with
    | zero => exact absurd HA.out (by simp [impl_PriorityText.j0])
    | succ kj2 =>
      have H := HA.out
      clear HA
      simp only [impl_PriorityText.j0] at H
      by_cases c5 : x11_2 = true
      · subst c5
        have H1 : (some (⟨#[]⟩ : ByteArray)) = some r := by rw [if_pos rfl] at H; exact H
        clear H
        have H := H1
        clear H1
        obtain rfl := Option.some.inj H
        go_wp2
        go_ret
        exact ⟨by first | rfl | (simp; done) | (simp [*]; done), by repeat (first | exact Drawn0.refl _ | apply Drawn0.step)⟩
      · replace c5 := Bool.eq_false_iff.mpr c5
        subst c5
        have H1 : ((strconv_Itoa.f a0).bind fun t104 => (if 2 + t104.size ≤ 9223372036854775807 then (if a1 = true then (if ((⟨#[117, 61]⟩ : ByteArray) ++ t104).size + 3 ≤ 9223372036854775807 then (some (((⟨#[117, 61]⟩ : ByteArray) ++ t104) ++ (⟨#[44, 32, 105]⟩ : ByteArray))) else (none)) else (some ((⟨#[117, 61]⟩ : ByteArray) ++ t104))) else (none))) = some r := by rw [if_neg (show ¬ (false = true) by decide)] at H; exact H
        clear H
        have H := H1
        clear H1
        replace H := Option.bind_eq_some_iff.mp H
        obtain ⟨t104, A60, H⟩ := H
        replace H : (if 2 + t104.size ≤ 9223372036854775807 then (if a1 = true then (if ((⟨#[117, 61]⟩ : ByteArray) ++ t104).size + 3 ≤ 9223372036854775807 then (some (((⟨#[117, 61]⟩ : ByteArray) ++ t104) ++ (⟨#[44, 32, 105]⟩ : ByteArray))) else (none)) else (some ((⟨#[117, 61]⟩ : ByteArray) ++ t104))) else (none)) = some r := H
        have A6 := Aside0.mk A60
        clear A60
        by_cases c7 : 2 + t104.size ≤ 9223372036854775807
        · rw [if_pos c7] at H
          have c7b0 := eq_true c7
          have c7b1 : decide (2 + t104.size ≤ 9223372036854775807) = true := decide_eq_true c7
          try have c7b2 : (9223372036854775807 < 2 + t104.size) = False := eq_false (Nat.not_lt.2 c7)
          by_cases c8 : a1 = true
          · subst c8
            have H1 : (if ((⟨#[117, 61]⟩ : ByteArray) ++ t104).size + 3 ≤ 9223372036854775807 then (some (((⟨#[117, 61]⟩ : ByteArray) ++ t104) ++ (⟨#[44, 32, 105]⟩ : ByteArray))) else (none)) = some r := by rw [if_pos rfl] at H; exact H
            clear H
            have H := H1
            clear H1
            by_cases c9 : ((⟨#[117, 61]⟩ : ByteArray) ++ t104).size + 3 ≤ 9223372036854775807
            · rw [if_pos c9] at H
              have c9b0 := eq_true c9
              have c9b1 : decide (((⟨#[117, 61]⟩ : ByteArray) ++ t104).size + 3 ≤ 9223372036854775807) = true := decide_eq_true c9
              try have c9b2 : (9223372036854775807 < ((⟨#[117, 61]⟩ : ByteArray) ++ t104).size + 3) = False := eq_false (Nat.not_lt.2 c9)
              try (have c9b3 := c9b2; rw [ByteArray.size_append] at c9b3; change (9223372036854775807 < 2 + _ + 3) = False at c9b3)
              try (have c9b3 := c9b2; rw [ByteArray.size_append] at c9b3; change (9223372036854775807 < 2 + _ + 3) = False at c9b3)
              obtain rfl := Option.some.inj H
              go_wp2_with (first | ((with_reducible refine gate_callee (f := 41) rfl ?_); refine goesL_ (some 13) rfl rfl Tryd.func41 (by kernel_rfl) rfl #[.int .i64 a0] rfl (by (try simp only [List.map_toArray, List.map_cons, List.map_nil]); first | done | rfl | (simp only [List.length_drop, List.length_take]; rfl)) ?_; (with_reducible refine (strconv_Itoa.calls a0 t104 _ A6.out).mono ?_); rintro e w' ⟨rfl, ⟨nd, rfl⟩⟩; refine ⟨_, rfl, ?_⟩))
              go_ret
              exact ⟨by first | rfl | (simp; done) | (simp [*]; done), by repeat (first | exact Drawn0.refl _ | apply Drawn0.step)⟩
            · rw [if_neg c9] at H
              exact absurd H (by simp)
          · replace c8 := Bool.eq_false_iff.mpr c8
            subst c8
            have H1 : (some ((⟨#[117, 61]⟩ : ByteArray) ++ t104)) = some r := by rw [if_neg (show ¬ (false = true) by decide)] at H; exact H
            clear H
            have H := H1
            clear H1
            obtain rfl := Option.some.inj H
            go_wp2_with (first | ((with_reducible refine gate_callee (f := 41) rfl ?_); refine goesL_ (some 13) rfl rfl Tryd.func41 (by kernel_rfl) rfl #[.int .i64 a0] rfl (by (try simp only [List.map_toArray, List.map_cons, List.map_nil]); first | done | rfl | (simp only [List.length_drop, List.length_take]; rfl)) ?_; (with_reducible refine (strconv_Itoa.calls a0 t104 _ A6.out).mono ?_); rintro e w' ⟨rfl, ⟨nd, rfl⟩⟩; refine ⟨_, rfl, ?_⟩))
            go_ret
            exact ⟨by first | rfl | (simp; done) | (simp [*]; done), by repeat (first | exact Drawn0.refl _ | apply Drawn0.step)⟩
        · rw [if_neg c7] at H
          exact absurd H (by simp)

/-! ### laws_FnExactPriorityText: function 3 -/
def laws_FnExactPriorityText.f (k : Nat) (a0 : Int) (a1 : Bool) : Option (Bool) := (spec_PriorityText.f k a0 a1).bind fun t105 => ((impl_PriorityText.f k a0 a1).bind fun t106 => (if t106.toList = t105.toList then (some true) else (some false)))
theorem laws_FnExactPriorityText.mono : ∀ a0 a1 k, LeO (laws_FnExactPriorityText.f k a0 a1) (laws_FnExactPriorityText.f (k + 1) a0 a1) := by
  intro a0 a1 k
  unfold laws_FnExactPriorityText.f
  repeat' first
      | (with_reducible exact impl_PriorityText.mono _ _ _)
      | (with_reducible exact spec_PriorityText.mono _ _ _)
      | (with_reducible exact LeO.refl _)
      | (with_reducible exact LeO.none _)
      | (with_reducible refine LeO.ite ?_ ?_)
      | (with_reducible refine LeO.bind ?_ (fun _ => ?_))
      | exact impl_PriorityText.mono _ _ _
      | exact spec_PriorityText.mono _ _ _
      | exact LeO.none _
      | refine LeO.ite ?_ ?_
      | refine LeO.bind ?_ (fun _ => ?_)
set_option maxHeartbeats 8000000 in
set_option maxRecDepth 100000 in
theorem laws_FnExactPriorityText.calls (k : Nat) (a0 : Int) (a1 : Bool) (r : Bool) (w : World) (h : laws_FnExactPriorityText.f k a0 a1 = some r) :
    Calls Tryd.prog 3 #[.int .i64 a0, .bool a1] w fun e w' => e = .returned (.bool r) ∧ Below w.heap.size w w' := by
  have HB := Aside0.mk (Below.refl w.heap.size w)
  have H : ((spec_PriorityText.f k a0 a1).bind fun t105 => ((impl_PriorityText.f k a0 a1).bind fun t106 => (if t106.toList = t105.toList then (some true) else (some false)))) = some r := h
  clear h
  replace H := Option.bind_eq_some_iff.mp H
  obtain ⟨t105, A30, H⟩ := H
  replace H : ((impl_PriorityText.f k a0 a1).bind fun t106 => (if t106.toList = t105.toList then (some true) else (some false))) = some r := H
  have A3 := Aside0.mk A30
  clear A30
  replace H := Option.bind_eq_some_iff.mp H
  obtain ⟨t106, A40, H⟩ := H
  replace H : (if t106.toList = t105.toList then (some true) else (some false)) = some r := H
  have A4 := Aside0.mk A40
  clear A40
  by_cases c5 : t106.toList = t105.toList
  · rw [if_pos c5] at H
    have c5b0 : (t106.toList == t105.toList) = true := beq_iff_eq.mpr c5
    have c5b1 : (t106.toList != t105.toList) = false := bne_eq_false_iff_eq.mpr c5
    clear c5
    obtain rfl := Option.some.inj H
    go_enter Tryd.func3, Tryd.ntmps3
    go_wp2_with (first | ((with_reducible refine gate_callee (f := 11) rfl ?_); refine goesL_ (some 9) rfl rfl Tryd.func11 (by kernel_rfl) rfl #[.int .i64 a0, .bool a1] rfl (by (try simp only [List.map_toArray, List.map_cons, List.map_nil]); first | done | rfl | (simp only [List.length_drop, List.length_take]; rfl)) ?_; (with_reducible refine (spec_PriorityText.calls k a0 a1 t105 _ A3.out).mono ?_); rintro e w6 ⟨rfl, hb⟩; refine ⟨_, rfl, ?_⟩; have n0_ := Aside0.mk (below_step (by repeat (first | (with_reducible first | exact HB.out | apply below_alloc | apply pw_below_drewN | apply below_drew1) | exact HB.out)) hb); clear HB; have HB := n0_; clear n0_; (try clear hb); (try clear hb2); (try clear hk); (try clear hi)) | ((with_reducible refine gate_callee (f := 12) rfl ?_); refine goesL_ (some 12) rfl rfl Tryd.func12 (by kernel_rfl) rfl #[.int .i64 a0, .bool a1] rfl (by (try simp only [List.map_toArray, List.map_cons, List.map_nil]); first | done | rfl | (simp only [List.length_drop, List.length_take]; rfl)) ?_; (with_reducible refine (impl_PriorityText.calls k a0 a1 t106 _ A4.out).mono ?_); rintro e w' ⟨rfl, ⟨nd, rfl⟩⟩; refine ⟨_, rfl, ?_⟩))
    go_ret
    exact ⟨by first | rfl | (simp [errW_none, errW_some] <;> rfl) | (simp [*, errW_none, errW_some] <;> rfl), by repeat (first | (with_reducible first | exact HB.out | apply below_alloc | apply pw_below_drewN | apply below_drew1) | exact HB.out)⟩
  · rw [if_neg c5] at H
    have c5b0 : (t106.toList == t105.toList) = false := beq_eq_false_iff_ne.mpr c5
    have c5b1 : (t106.toList != t105.toList) = true := bne_iff_ne.mpr c5
    obtain rfl := Option.some.inj H
    go_enter Tryd.func3, Tryd.ntmps3
    go_wp2_with (first | ((with_reducible refine gate_callee (f := 11) rfl ?_); refine goesL_ (some 9) rfl rfl Tryd.func11 (by kernel_rfl) rfl #[.int .i64 a0, .bool a1] rfl (by (try simp only [List.map_toArray, List.map_cons, List.map_nil]); first | done | rfl | (simp only [List.length_drop, List.length_take]; rfl)) ?_; (with_reducible refine (spec_PriorityText.calls k a0 a1 t105 _ A3.out).mono ?_); rintro e w7 ⟨rfl, hb⟩; refine ⟨_, rfl, ?_⟩; have n0_ := Aside0.mk (below_step (by repeat (first | (with_reducible first | exact HB.out | apply below_alloc | apply pw_below_drewN | apply below_drew1) | exact HB.out)) hb); clear HB; have HB := n0_; clear n0_; (try clear hb); (try clear hb2); (try clear hk); (try clear hi)) | ((with_reducible refine gate_callee (f := 12) rfl ?_); refine goesL_ (some 12) rfl rfl Tryd.func12 (by kernel_rfl) rfl #[.int .i64 a0, .bool a1] rfl (by (try simp only [List.map_toArray, List.map_cons, List.map_nil]); first | done | rfl | (simp only [List.length_drop, List.length_take]; rfl)) ?_; (with_reducible refine (impl_PriorityText.calls k a0 a1 t106 _ A4.out).mono ?_); rintro e w' ⟨rfl, ⟨nd, rfl⟩⟩; refine ⟨_, rfl, ?_⟩))
    go_ret
    exact ⟨by first | rfl | (simp [errW_none, errW_some] <;> rfl) | (simp [*, errW_none, errW_some] <;> rfl), by repeat (first | (with_reducible first | exact HB.out | apply below_alloc | apply pw_below_drewN | apply below_drew1) | exact HB.out)⟩

/-- THE ONE PURE STATEMENT of laws_FnExactPriorityText: yours. -/
def laws_FnExactPriorityText.Pure : Prop := ∀ (a0 : Int) (a1 : Bool), (Lit.int .i64 a0).wf = true → ∃ k, laws_FnExactPriorityText.f k a0 a1 = some true
theorem laws_FnExactPriorityText.walk (P : laws_FnExactPriorityText.Pure) (a0 : Int) (a1 : Bool) (w : World) (w0 : (Lit.int .i64 a0).wf = true) :
    Calls Tryd.prog 3 #[.int .i64 a0, .bool a1] w fun e w' => e = .returned (.bool true) ∧ Below w.heap.size w w' := by
  obtain ⟨k, h⟩ := P a0 a1 w0
  refine (laws_FnExactPriorityText.calls k a0 a1 true w h).mono ?_
  rintro e w' ⟨rfl, hd⟩
  exact ⟨rfl, hd⟩

end Go.Proofs.YtkcimmlaoipdkaaDoor.PFnExactPriorityText
