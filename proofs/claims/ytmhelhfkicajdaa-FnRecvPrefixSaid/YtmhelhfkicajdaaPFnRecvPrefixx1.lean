-- Written by a program of this repo (xprint.py) out of the translation; Lean checks it. SHRUNK
import Derived.Test.YtmhelhfkicajdaaPFnRecvPrefixx0
namespace Go.Proofs.Ytmhelhfkicajdaa.PFnRecvPrefix
open Go.RowKit Go.Proofs.YtmhelhfkicajdaaW.PrintWords Go.Proofs.YtmhelhfkicajdaaW.PrintLast Go.Proofs.YtmhelhfkicajdaaW.PrintMore
attribute [local go_sem] max2_int min2_int max_two min_two max_three min_three max_four min_four   -- for this text's walks alone
set_option linter.unusedVariables false
set_option linter.unusedSimpArgs false

/-! ### laws_at: function 4 -/
def laws_at.f (l0 : List Int) (a1 : Int) (a2 : Int) : Option (Int) := if a2 ≤ 1 then (some 0) else (if (l0.length : Int) = 0 then (if a2 = 0 then (none) else (some (Int.tmod (wrap64 (a1 * 7)) a2))) else (if 0 ≤ (Int.tmod a1 (l0.length : Int)) then (if (Int.tmod a1 (l0.length : Int)) < (l0.length : Int) then (if 0 ≤ (Int.tmod (wrap64 (a1 + 1)) (l0.length : Int)) then (if (Int.tmod (wrap64 (a1 + 1)) (l0.length : Int)) < (l0.length : Int) then (if a2 = 0 then (none) else (some (Int.tmod (wrap64 ((wrap64 ((wrap64 ((wrap64 (rd l0 (Int.tmod a1 (l0.length : Int)))) * 31)) + (wrap64 (rd l0 (Int.tmod (wrap64 (a1 + 1)) (l0.length : Int)))))) + (wrap64 (Int.tdiv a1 (l0.length : Int))))) a2))) else (none)) else (none)) else (none)) else (none)))
set_option maxHeartbeats 8000000 in
set_option maxRecDepth 100000 in
theorem laws_at.calls (A0 : Option Addr) (c0 : Nat) (l0 : List Int) (a1 : Int) (a2 : Int) (r : Int) (w : World) (hr0 : Kd.C (Kd.int .u8) w A0 l0.length l0) (hc0 : l0.length ≤ c0) (h : laws_at.f l0 a1 a2 = some r) :
    Calls Try.prog 4 #[.slice A0 l0.length c0, .int .i64 a1, .int .i64 a2] w fun e w' => e = .returned (.int .i64 r) ∧ Drawn0 w w' := by
 have HR0 := Aside0.mk hr0; have HC0 := Aside0.mk hc0; clear hr0 hc0; have H : (if a2 ≤ 1 then (some 0) else (if (l0.length : Int) = 0 then (if a2 = 0 then (none) else (some (Int.tmod (wrap64 (a1 * 7)) a2))) else (if 0 ≤ (Int.tmod a1 (l0.length : Int)) then (if (Int.tmod a1 (l0.length : Int)) < (l0.length : Int) then (if 0 ≤ (Int.tmod (wrap64 (a1 + 1)) (l0.length : Int)) then (if (Int.tmod (wrap64 (a1 + 1)) (l0.length : Int)) < (l0.length : Int) then (if a2 = 0 then (none) else (some (Int.tmod (wrap64 ((wrap64 ((wrap64 ((wrap64 (rd l0 (Int.tmod a1 (l0.length : Int)))) * 31)) + (wrap64 (rd l0 (Int.tmod (wrap64 (a1 + 1)) (l0.length : Int)))))) + (wrap64 (Int.tdiv a1 (l0.length : Int))))) a2))) else (none)) else (none)) else (none)) else (none)))) = some r := h; clear h; by_cases c4 : a2 ≤ 1
 ·rw [if_pos c4] at H; have c4b0 : decide (a2 ≤ 1) = true := decide_eq_true c4; clear c4; obtain rfl := Option.some.inj H; (go_enter Try.func4, Try.ntmps4); (go_wp2); (repeat (go_quiet (fail); try go_wp2)); (go_ret); exact ⟨by first | rfl | (simp; done) | (simp [*]; done), by repeat (first | exact Drawn0.refl _ | apply Drawn0.step)⟩
 ·rw [if_neg c4] at H; have c4b0 : decide (a2 ≤ 1) = false := decide_eq_false c4; clear c4; by_cases c5 : (l0.length : Int) = 0
  ·rw [if_pos c5] at H; have c5b0 : ((l0.length : Int) == 0) = true := beq_iff_eq.mpr c5; have c5b1 : ((l0.length : Int) != 0) = false := bne_eq_false_iff_eq.mpr c5; clear c5; by_cases c6 : a2 = 0
   ·rw [if_pos c6] at H; exact absurd H (by simp)
   ·rw [if_neg c6] at H; have c6b0 : (a2 == 0) = false := beq_eq_false_iff_ne.mpr c6; have c6b1 : (a2 != 0) = true := bne_iff_ne.mpr c6; obtain rfl := Option.some.inj H; (go_enter Try.func4, Try.ntmps4); (go_wp2); (repeat (go_quiet (fail); try go_wp2)); (go_ret); exact ⟨by first | rfl | (simp; done) | (simp [*]; done), by repeat (first | exact Drawn0.refl _ | apply Drawn0.step)⟩
  ·rw [if_neg c5] at H; have c5b0 : ((l0.length : Int) == 0) = false := beq_eq_false_iff_ne.mpr c5; have c5b1 : ((l0.length : Int) != 0) = true := bne_iff_ne.mpr c5; (have c5b2 : ¬ (l0 = []) := fun h_ => c5 (by rw [h_]; rfl)); obtain ⟨ji7, hji7⟩ : ∃ j_ : Int, (Int.tmod a1 (l0.length : Int)) = j_ := ⟨_, rfl⟩; (replace H : (if 0 ≤ (ji7) then (if (ji7) < (l0.length : Int) then (if 0 ≤ (Int.tmod (wrap64 (a1 + 1)) (l0.length : Int)) then (if (Int.tmod (wrap64 (a1 + 1)) (l0.length : Int)) < (l0.length : Int) then (if a2 = 0 then (none) else (some (Int.tmod (wrap64 ((wrap64 ((wrap64 ((wrap64 (rd l0 (ji7))) * 31)) + (wrap64 (rd l0 (Int.tmod (wrap64 (a1 + 1)) (l0.length : Int)))))) + (wrap64 (Int.tdiv a1 (l0.length : Int))))) a2))) else (none)) else (none)) else (none)) else (none)) = some r := by first | (rw [hji7] at H; exact H) | (simp only [hji7] at H ⊢; exact H)); by_cases c8 : 0 ≤ (ji7)
   ·rw [if_pos c8] at H; have c8b0 : decide (0 ≤ (ji7)) = true := decide_eq_true c8; clear c8; by_cases c9 : (ji7) < (l0.length : Int)
    ·rw [if_pos c9] at H; have c9b0 : decide ((ji7) < (l0.length : Int)) = true := decide_eq_true c9; clear c9; obtain ⟨ji10, hji10⟩ : ∃ j_ : Int, (Int.tmod (wrap64 (a1 + 1)) (l0.length : Int)) = j_ := ⟨_, rfl⟩; (replace H : (if 0 ≤ (ji10) then (if (ji10) < (l0.length : Int) then (if a2 = 0 then (none) else (some (Int.tmod (wrap64 ((wrap64 ((wrap64 ((wrap64 (rd l0 (ji7))) * 31)) + (wrap64 (rd l0 (ji10))))) + (wrap64 (Int.tdiv a1 (l0.length : Int))))) a2))) else (none)) else (none)) = some r := by first | (rw [hji10] at H; exact H) | (simp only [hji10] at H ⊢; exact H)); by_cases c11 : 0 ≤ (ji10)
     ·rw [if_pos c11] at H; have c11b0 : decide (0 ≤ (ji10)) = true := decide_eq_true c11; clear c11; by_cases c12 : (ji10) < (l0.length : Int)
      ·rw [if_pos c12] at H; have c12b0 : decide ((ji10) < (l0.length : Int)) = true := decide_eq_true c12; clear c12; by_cases c13 : a2 = 0
       ·rw [if_pos c13] at H; exact absurd H (by simp)
       ·rw [if_neg c13] at H; have c13b0 : (a2 == 0) = false := beq_eq_false_iff_ne.mpr c13; have c13b1 : (a2 != 0) = true := bne_iff_ne.mpr c13; obtain rfl := Option.some.inj H; have p101 : 0 ≤ ((ji7) : Int) := of_decide_eq_true (by first | (with_reducible assumption) | assumption); have q101 : (ji7) < (l0.length : Int) := of_decide_eq_true (by first | (with_reducible assumption) | assumption); obtain ⟨ad101, e101, hx101_0⟩ := Kd.at_int HR0.out (ji7) p101 q101; (cases e101); replace p101 := eq_true p101; replace q101 := eq_true q101; have p102 : 0 ≤ ((ji10) : Int) := of_decide_eq_true (by first | (with_reducible assumption) | assumption); have q102 : (ji10) < (l0.length : Int) := of_decide_eq_true (by first | (with_reducible assumption) | assumption); obtain ⟨ad102, e102, hx102_0⟩ := Kd.at_int HR0.out (ji10) p102 q102; obtain rfl : ad101 = ad102 := (by injection e102); replace p102 := eq_true p102; replace q102 := eq_true q102; (go_enter Try.func4, Try.ntmps4); (go_wp2); (repeat (go_quiet (fail); try go_wp2)); (go_ret); exact ⟨by first | rfl | (simp; done) | (simp only [← hji7, ← hji10] <;> (first | rfl | simp)) | (simp [*]; done), by repeat (first | exact Drawn0.refl _ | apply Drawn0.step)⟩
      ·rw [if_neg c12] at H; exact absurd H (by simp)
     ·rw [if_neg c11] at H; exact absurd H (by simp)
    ·rw [if_neg c9] at H; exact absurd H (by simp)
   ·rw [if_neg c8] at H; exact absurd H (by simp)

/-! ### laws_copied: function 5 -/
def laws_copied.f (l0 : List Int) : Option (List Int) := (some (([] : List Int) : List Int)).bind fun y103 => (if y103.length + l0.length < 140737488355328 then (some (y103 ++ l0)) else (none))
set_option maxHeartbeats 8000000 in
set_option maxRecDepth 100000 in
theorem laws_copied.calls (A0 : Option Addr) (c0 : Nat) (l0 : List Int) (r : List Int) (w : World) (hr0 : Kd.C (Kd.int .u8) w A0 l0.length l0) (hc0 : l0.length ≤ c0) (h : laws_copied.f l0 = some r) :
    Calls Try.prog 5 #[.slice A0 l0.length c0] w fun e w' => ∃ v0_ : Value, e = .returned (v0_) ∧ Kd.R (Kd.int .u8) 5 w' w.heap.size (fun _ => True) v0_ r ∧ Below w.heap.size w w' := by
 have HR0 := Aside0.mk hr0; have HC0 := Aside0.mk hc0; clear hr0 hc0; have HB := am (Below.refl w.heap.size w); have H : ((some (([] : List Int) : List Int)).bind fun y103 => (if y103.length + l0.length < 140737488355328 then (some (y103 ++ l0)) else (none))) = some r := h; clear h; obtain ⟨y103, hy103⟩ : ∃ y_ : List Int, y_ = (([] : List Int)) := ⟨_, rfl⟩; (replace H : (if y103.length + l0.length < 140737488355328 then (some (y103 ++ l0)) else (none)) = some r := by first | (rw [hy103]; with_reducible exact H) | (have H2_ := (Option.bind_some _ _).symm.trans H; rw [hy103]; with_reducible exact H2_) | (have H2_ := (Option.bind_some _ _).symm.trans H; with_reducible exact H2_) | with_reducible exact H | (rw [hy103]; exact H) | exact H); have Ny103 := Aside0.mk hy103; clear hy103; by_cases c2 : y103.length + l0.length < 140737488355328
 ·rw [if_pos c2] at H; have LMc2 := Aside0.mk c2; clear c2; obtain ⟨y106, hy106⟩ : ∃ y_ : List Int, y_ = (y103 ++ l0) := ⟨_, rfl⟩; (replace H : (some y106) = some r := by first | (rw [hy106]; with_reducible exact H) | (have H2_ := (Option.bind_some _ _).symm.trans H; rw [hy106]; with_reducible exact H2_) | (have H2_ := (Option.bind_some _ _).symm.trans H; with_reducible exact H2_) | with_reducible exact H | (rw [hy106]; exact H) | exact H); have Ny106 := Aside0.mk hy106; clear hy106; obtain rfl := Option.some.inj H; (go_enter Try.func5, Try.ntmps5); (go_wp2_with (first | ((with_reducible refine gate_dst (N := 3) rfl ?_); refine Kd.R_lit (Kd.int .u8) _ 5 ?hg (N := 3) ?hd (xs := ([] : List Int)) (inner := []) (ok := fun _ => True) (okp := fun _ => True) ?hr ?hp (fun _ hk => hk) trivial (Below.refl _ _) (Nat.le_refl _) (by simp) ?_; (case hd => rfl); (case hg => rfl); (case hr => first | (go_simp; done) | (go_simp; rfl)); (case hp => exact (Reps.none _ _)); intro v104 w3 ho4 hb hg_ hnew_; clear hg_ hnew_; (first | rw [← Ny103.out] at ho4 | (simp only [Int.reduceToNat] at ho4; rw [← Ny103.out] at ho4)); have HO105 := am (Kd.R_lower ho4 (below_size (hq HB.out))); replace HB := am (below_step (hq HB.out) hb); clear hb ho4) | ((with_reducible refine gate_builtin (b := .append) (xs := #[.tmp 3, .tmp 4]) rfl ?_); at_builtin; refine Kd.R_append_rows (Kd.int .u8) (w0 := w) w.heap.size rfl (.tmp 3) (.tmp 4) 22 5 (.int .u8 0) 1 rfl Try.underlying22 info5 rfl (by decide) (by omega) v104 y103 l0 _ _ _ (fun _ => True) (fun _ => False) rfl rfl ?aO ?aR (fun _ _ h => h) (fun _ h => h.elim) ?aF ?aB ?aS ?aL ?_; (case aR => exact ch HR0 HB); (case aB => exact (hq HB.out)); (case aF => exact (fun _ _ => trivial)); (case aO => exact (rq HO105.out)); (case aS => exact (below_size (hq HB.out))); (case aL => have := LMc2.out; omega); intro v107 w5 ho hb hg hat; rw [← Ny106.out] at ho; have n0_ := am (hb); have n1_ := am (ho); clear HB; clear HO105; have HB := n0_; have HO108 := n1_; clear n0_ n1_; clear ho hb hg hat))); (go_ret); exact ⟨_, by first | rfl | (simp [errW_none, errW_some] <;> rfl) | (simp [*, errW_none, errW_some] <;> rfl), by (with_reducible repeat (first | apply Kd.R_alloc | apply Kd.R_drewN | apply Kd.R_drew)); exact HO108.out, by repeat (first | (with_reducible first | exact HB.out | apply below_alloc | apply pw_below_drewN | apply below_drew1) | exact HB.out)⟩
 ·rw [if_neg c2] at H; exact absurd H (by simp)

/-! ### impl_CreditNext: function 15 -/
def impl_CreditNext.j0 : Nat → Int → Int → Int → Bool → Option (Int)
  | 0, _, _, _, _ => none
  | k + 1, x0, x1, x2, x28 => if x28 = true then (some (-1)) else (if (wrap64 ((wrap64 (x0 + x1)) - x2)) ≥ (wrap64 (Int.tdiv (wrap64 (x1 + 1)) 2)) then (some (wrap64 (x0 + x1))) else (some x2))
def impl_CreditNext.f (k : Nat) (a0 : Int) (a1 : Int) (a2 : Int) : Option (Int) := if a0 < 0 then (impl_CreditNext.j0 k a0 a1 a2 true) else (if a0 > 4611686018427371519 then (impl_CreditNext.j0 k a0 a1 a2 true) else (if a2 < 0 then (impl_CreditNext.j0 k a0 a1 a2 true) else (if a2 > 4611686018427371519 then (impl_CreditNext.j0 k a0 a1 a2 true) else (if a1 < 1 then (impl_CreditNext.j0 k a0 a1 a2 true) else (impl_CreditNext.j0 k a0 a1 a2 (decide (a1 > 16384)))))))
theorem impl_CreditNext.mono_l : ∀ k, (∀ y0 y1 y2 y3, LeO (impl_CreditNext.j0 k y0 y1 y2 y3) (impl_CreditNext.j0 (k + 1) y0 y1 y2 y3))
  | 0 => fun _ _ _ _ r h => by simp [impl_CreditNext.j0] at h
  | k + 1 => by
    have ih0 := impl_CreditNext.mono_l k
    · intro y0 y1 y2 y3
      unfold impl_CreditNext.j0
      repeat' first
      | (with_reducible exact ih0 _ _ _ _)
      | (with_reducible exact LeO.refl _)
      | (with_reducible exact LeO.none _)
      | (with_reducible refine LeO.ite ?_ ?_)
      | (with_reducible refine LeO.bind ?_ (fun _ => ?_))
      | exact ih0 _ _ _ _
      | exact LeO.none _
      | refine LeO.ite ?_ ?_
      | refine LeO.bind ?_ (fun _ => ?_)
theorem impl_CreditNext.mono : ∀ a0 a1 a2 k, LeO (impl_CreditNext.f k a0 a1 a2) (impl_CreditNext.f (k + 1) a0 a1 a2) := by
  intro a0 a1 a2 k
  have ih0 := impl_CreditNext.mono_l k
  unfold impl_CreditNext.f
  repeat' first
      | (with_reducible exact ih0 _ _ _ _)
      | (with_reducible exact LeO.refl _)
      | (with_reducible exact LeO.none _)
      | (with_reducible refine LeO.ite ?_ ?_)
      | (with_reducible refine LeO.bind ?_ (fun _ => ?_))
      | exact ih0 _ _ _ _
      | exact LeO.none _
      | refine LeO.ite ?_ ?_
      | refine LeO.bind ?_ (fun _ => ?_)
set_option maxHeartbeats 8000000 in
set_option maxRecDepth 100000 in
theorem impl_CreditNext.calls (k : Nat) (a0 : Int) (a1 : Int) (a2 : Int) (r : Int) (w : World) (h : impl_CreditNext.f k a0 a1 a2 = some r) :
    Calls Try.prog 15 #[.int .i64 a0, .int .i64 a1, .int .i64 a2] w fun e w' => e = .returned (.int .i64 r) ∧ Drawn0 w w' := by
 have H : (if a0 < 0 then (impl_CreditNext.j0 k a0 a1 a2 true) else (if a0 > 4611686018427371519 then (impl_CreditNext.j0 k a0 a1 a2 true) else (if a2 < 0 then (impl_CreditNext.j0 k a0 a1 a2 true) else (if a2 > 4611686018427371519 then (impl_CreditNext.j0 k a0 a1 a2 true) else (if a1 < 1 then (impl_CreditNext.j0 k a0 a1 a2 true) else (impl_CreditNext.j0 k a0 a1 a2 (decide (a1 > 16384)))))))) = some r := h; clear h; have HC4 := Aside0.mk H; clear H; (go_enter Try.func15, Try.ntmps15); (go_upto_region 1 with (fail)); (go_cut [28] (fun v28 wc => ∃ (kq : Nat) (x28_3 : Bool), v28 = .bool x28_3 ∧ Aside0 (impl_CreditNext.j0 kq a0 a1 a2 x28_3 = some r) ∧ Aside0 (kq ≤ k) ∧ Drawn0 w wc))
 case first =>
  have H := HC4.out; clear HC4; by_cases c5 : a0 < 0
  ·rw [if_pos c5] at H; have c5b0 : decide (a0 < 0) = true := decide_eq_true c5; clear c5; (first | rw [c5b0] | (simp only [i64_w, i32_w]; rw [c5b0]) | skip); have H' := Aside0.mk H; clear H; (go_wp2); (go_meet)
   case rel => exact ⟨_, (true), (by first | rfl | (simp; done) | (simp [*]; done)), H', ⟨by first | omega | exact Nat.le_refl _⟩, by repeat (first | exact Drawn0.refl _ | apply Drawn0.step)⟩
  ·rw [if_neg c5] at H; have c5b0 : decide (a0 < 0) = false := decide_eq_false c5; clear c5; (first | rw [c5b0] | (simp only [i64_w, i32_w]; rw [c5b0]) | skip); by_cases c6 : a0 > 4611686018427371519
   ·rw [if_pos c6] at H; have c6b0 : decide (4611686018427371519 < a0) = true := decide_eq_true c6; clear c6; have H' := Aside0.mk H; clear H; (go_wp2); (go_meet)
    case rel => exact ⟨_, (true), (by first | rfl | (simp; done) | (simp [*]; done)), H', ⟨by first | omega | exact Nat.le_refl _⟩, by repeat (first | exact Drawn0.refl _ | apply Drawn0.step)⟩
   ·rw [if_neg c6] at H; have c6b0 : decide (4611686018427371519 < a0) = false := decide_eq_false c6; clear c6; by_cases c7 : a2 < 0
    ·rw [if_pos c7] at H; have c7b0 : decide (a2 < 0) = true := decide_eq_true c7; clear c7; have H' := Aside0.mk H; clear H; (go_wp2); (go_meet)
     case rel => exact ⟨_, (true), (by first | rfl | (simp; done) | (simp [*]; done)), H', ⟨by first | omega | exact Nat.le_refl _⟩, by repeat (first | exact Drawn0.refl _ | apply Drawn0.step)⟩
    ·rw [if_neg c7] at H; have c7b0 : decide (a2 < 0) = false := decide_eq_false c7; clear c7; by_cases c8 : a2 > 4611686018427371519
     ·rw [if_pos c8] at H; have c8b0 : decide (4611686018427371519 < a2) = true := decide_eq_true c8; clear c8; have H' := Aside0.mk H; clear H; (go_wp2); (go_meet)
      case rel => exact ⟨_, (true), (by first | rfl | (simp; done) | (simp [*]; done)), H', ⟨by first | omega | exact Nat.le_refl _⟩, by repeat (first | exact Drawn0.refl _ | apply Drawn0.step)⟩
     ·rw [if_neg c8] at H; have c8b0 : decide (4611686018427371519 < a2) = false := decide_eq_false c8; clear c8; by_cases c9 : a1 < 1
      ·rw [if_pos c9] at H; have c9b0 : decide (a1 < 1) = true := decide_eq_true c9; clear c9; have H' := Aside0.mk H; clear H; (go_wp2); (go_meet)
       case rel => exact ⟨_, (true), (by first | rfl | (simp; done) | (simp [*]; done)), H', ⟨by first | omega | exact Nat.le_refl _⟩, by repeat (first | exact Drawn0.refl _ | apply Drawn0.step)⟩
      ·rw [if_neg c9] at H; have c9b0 : decide (a1 < 1) = false := decide_eq_false c9; clear c9; have H' := Aside0.mk H; clear H; (go_wp2); (go_meet)
       case rel => exact ⟨_, (decide (a1 > 16384)), (by first | rfl | (simp; done) | (simp [*]; done)), H', ⟨by first | omega | exact Nat.le_refl _⟩, by repeat (first | exact Drawn0.refl _ | apply Drawn0.step)⟩
 case rest =>
  clear HC4; (try clear c1); (try clear p2); (try clear c5); (try clear c5b0); (try clear c6); (try clear c6b0); (try clear c7); (try clear c7b0); (try clear c8); (try clear c8b0); (try clear c9); (try clear c9b0); obtain ⟨kq, x28_3, rfl, HA, HJ3, ⟨mc3, rfl⟩⟩ := hcut
  cases kq with
  | zero => exact absurd HA.out (by simp [impl_CreditNext.j0])
  | succ kj3 =>
   have H := HA.out; clear HA; simp only [impl_CreditNext.j0] at H; by_cases c10 : x28_3 = true
   ·subst c10; (have H1 : (some (-1)) = some r := by rw [if_pos rfl] at H; exact H); clear H; have H := H1; clear H1; obtain rfl := Option.some.inj H; (go_wp2); (go_ret); exact ⟨by first | rfl | (simp; done) | (simp [*]; done), by repeat (first | exact Drawn0.refl _ | apply Drawn0.step)⟩
   ·replace c10 := Bool.eq_false_iff.mpr c10; subst c10; (have H1 : (if (wrap64 ((wrap64 (a0 + a1)) - a2)) ≥ (wrap64 (Int.tdiv (wrap64 (a1 + 1)) 2)) then (some (wrap64 (a0 + a1))) else (some a2)) = some r := by rw [if_neg (show ¬ (false = true) by decide)] at H; exact H); clear H; have H := H1; clear H1; by_cases c11 : (wrap64 ((wrap64 (a0 + a1)) - a2)) ≥ (wrap64 (Int.tdiv (wrap64 (a1 + 1)) 2))
    ·rw [if_pos c11] at H; have c11b0 : decide ((wrap64 (Int.tdiv (wrap64 (a1 + 1)) 2)) ≤ (wrap64 ((wrap64 (a0 + a1)) - a2))) = true := decide_eq_true c11; clear c11; obtain rfl := Option.some.inj H; (go_wp2); (go_ret); exact ⟨by first | rfl | (simp; done) | (simp [*]; done), by repeat (first | exact Drawn0.refl _ | apply Drawn0.step)⟩
    ·rw [if_neg c11] at H; have c11b0 : decide ((wrap64 (Int.tdiv (wrap64 (a1 + 1)) 2)) ≤ (wrap64 ((wrap64 (a0 + a1)) - a2))) = false := decide_eq_false c11; clear c11; obtain rfl := Option.some.inj H; (go_wp2); (go_ret); exact ⟨by first | rfl | (simp; done) | (simp [*]; done), by repeat (first | exact Drawn0.refl _ | apply Drawn0.step)⟩

end Go.Proofs.Ytmhelhfkicajdaa.PFnRecvPrefix
