-- Written by a program of this repo (xprint.py) out of the translation; Lean checks it.
import Derived.Test.YtobcmccoadeocaaPFnExactInitialKeysx0
namespace Go.Proofs.Ytobcmccoadeocaa.PFnExactInitialKeys
open Go.RowKit Go.Proofs.YtobcmccoadeocaaW.PrintWords Go.Proofs.YtobcmccoadeocaaW.PrintLast Go.Proofs.YtobcmccoadeocaaW.PrintMore
attribute [local go_sem] max2_int min2_int max_two min_two max_three min_three max_four min_four   -- for this text's walks alone
set_option linter.unusedVariables false
set_option linter.unusedSimpArgs false

/-! ### impl_fixed: function 19 -/
def impl_fixed.l0 : Nat → List Int → Int → Int → Option (List Int)
  | 0, _, _, _ => none
  | k + 1, x0, x1, x7 => if x7 ≥ 0 then (if 0 ≤ (wrap64 (8 * x7)) then (if x0.length < 140737488355328 then (impl_fixed.l0 k (x0 ++ [(shr .u64 (IntKind.u64.wrap (x1)) (wrap64 (8 * x7))) % 256]) x1 (wrap64 (x7 - 1))) else (none)) else (none)) else (some x0)
def impl_fixed.f (k : Nat) (l0 : List Int) (a1 : Int) (a2 : Int) : Option (List Int) := impl_fixed.l0 k l0 a1 (wrap64 (a2 - 1))
theorem impl_fixed.mono_l : ∀ k, (∀ y0 y1 y2, LeO (impl_fixed.l0 k y0 y1 y2) (impl_fixed.l0 (k + 1) y0 y1 y2))
  | 0 => fun _ _ _ r h => by simp [impl_fixed.l0] at h
  | k + 1 => by
    have ih0 := impl_fixed.mono_l k
    · intro y0 y1 y2
      unfold impl_fixed.l0
      repeat' first
      | (with_reducible exact ih0 _ _ _)
      | (with_reducible exact LeO.refl _)
      | (with_reducible exact LeO.none _)
      | (with_reducible refine LeO.ite ?_ ?_)
      | (with_reducible refine LeO.bind ?_ (fun _ => ?_))
      | exact ih0 _ _ _
      | exact LeO.none _
      | refine LeO.ite ?_ ?_
      | refine LeO.bind ?_ (fun _ => ?_)
theorem impl_fixed.mono : ∀ a0 a1 a2 k, LeO (impl_fixed.f k a0 a1 a2) (impl_fixed.f (k + 1) a0 a1 a2) := by
  intro a0 a1 a2 k
  have ih0 := impl_fixed.mono_l k
  unfold impl_fixed.f
  repeat' first
      | (with_reducible exact ih0 _ _ _)
      | (with_reducible exact LeO.refl _)
      | (with_reducible exact LeO.none _)
      | (with_reducible refine LeO.ite ?_ ?_)
      | (with_reducible refine LeO.bind ?_ (fun _ => ?_))
      | exact ih0 _ _ _
      | exact LeO.none _
      | refine LeO.ite ?_ ?_
      | refine LeO.bind ?_ (fun _ => ?_)
set_option maxHeartbeats 8000000 in
set_option maxRecDepth 100000 in
theorem impl_fixed.calls (k : Nat) (P0_ : Nat → Prop) (u9000_ : Value) (l0 : List Int) (a1 : Int) (a2 : Int) (r : List Int) (w0 w : World) (hB : Below w0.heap.size w0 w) (ho0 : Kd.R (Kd.int .u8) 5 w w0.heap.size P0_ u9000_ l0) (h : impl_fixed.f k l0 a1 a2 = some r) :
    Calls Try.prog 19 #[u9000_, .int .i64 a1, .int .i64 a2] w fun e w' => ∃ v0_ : Value, e = .returned (v0_) ∧ Kd.R (Kd.int .u8) 5 w' w0.heap.size (fun k_ => (P0_ k_ ∨ w.heap.size ≤ k_)) v0_ r ∧ Below w0.heap.size w0 w' ∧ Kept w w' (fun k_ => P0_ k_) := by
  have HO0 := Aside0.mk (show Kd.R (Kd.int .u8) 5 w w0.heap.size (fun k_ => (P0_ k_ ∨ w.heap.size ≤ k_)) u9000_ l0 from Kd.R_mono ho0 (fun k_ hk => (.inl hk)))
  have HK := Aside0.mk (Kept.refl w (fun k_ => P0_ k_))
  have HW0 := Aside0.mk hB.size
  have HB := Aside0.mk hB
  clear hB
  have H : (impl_fixed.l0 k l0 a1 (wrap64 (a2 - 1))) = some r := h
  clear h
  have H' := Aside0.mk H
  clear H
  go_enter Try.func19, Try.ntmps19
  go_wp2
  go_loopg [0, 7] k (fun kq v0 v7 w' => ∃ (x0_1 : List Int) (x7_1 : Int), v7 = .int .i64 x7_1 ∧ Aside0 (impl_fixed.l0 kq x0_1 a1 x7_1 = some r) ∧ Aside0 (kq ≤ k) ∧ Aside0 (Kd.R (Kd.int .u8) 5 w' w0.heap.size (fun k_ => (P0_ k_ ∨ w.heap.size ≤ k_)) v0 x0_1) ∧ Aside0 (Kept w w' (fun k_ => P0_ k_)) ∧ Aside0 (Below w0.heap.size w0 w'))
  case atStart => exact ⟨(l0), (wrap64 (a2 - 1)), (by first | rfl | (simp; done) | (simp [*]; done)), H', ⟨Nat.le_refl _⟩, ⟨by (with_reducible repeat (first | apply Kd.R_alloc | apply Kd.R_drewN | apply Kd.R_drew)); exact HO0.out⟩, ⟨by repeat (first | (with_reducible first | exact HK.out | apply Kept.alloc | apply Kept.drewN | apply Kept.drew) | exact HK.out)⟩, ⟨by repeat (first | (with_reducible first | exact HB.out | apply below_alloc | apply pw_below_drewN | apply below_drew1) | exact HB.out)⟩⟩
  case round =>
    clear H'
    try clear c1
    try clear p2
    obtain ⟨x0_1, x7_1, rfl, HA, HK1, HO_0, HK, HB⟩ := hrel
    cases gk with
    | zero => exact absurd HA.out (by simp [impl_fixed.l0])
    | succ k1 =>
      have H := HA.out
      clear HA
      simp only [impl_fixed.l0] at H
      by_cases c4 : x7_1 ≥ 0
      · rw [if_pos c4] at H
        have c4b0 : decide (0 ≤ x7_1) = true := decide_eq_true c4
        clear c4
        obtain ⟨ji5, hji5⟩ : ∃ j_ : Int, (wrap64 (8 * x7_1)) = j_ := ⟨_, rfl⟩
        replace H : (if 0 ≤ (ji5) then (if x0_1.length < 140737488355328 then (impl_fixed.l0 k1 (x0_1 ++ [(shr .u64 (IntKind.u64.wrap (a1)) (ji5)) % 256]) a1 (wrap64 (x7_1 - 1))) else (none)) else (none)) = some r := by first | (rw [hji5] at H; exact H) | (simp only [hji5] at H ⊢; exact H)
        have hji5w : (IntKind.i64.wrap (8 * x7_1)) = ji5 := (i64_w _).trans hji5
        by_cases c6 : 0 ≤ (ji5)
        · rw [if_pos c6] at H
          have c6b0 := eq_true c6
          have c6b1 : decide (0 ≤ (ji5)) = true := decide_eq_true c6
          clear c6
          obtain ⟨ji7, hji7⟩ : ∃ j_ : Int, (shr .u64 (IntKind.u64.wrap (a1)) (ji5)) = j_ := ⟨_, rfl⟩
          replace H : (if x0_1.length < 140737488355328 then (impl_fixed.l0 k1 (x0_1 ++ [(ji7) % 256]) a1 (wrap64 (x7_1 - 1))) else (none)) = some r := by first | (rw [hji7] at H; exact H) | (simp only [hji7] at H ⊢; exact H)
          have hji7_ : ((IntKind.u64.wrap (a1)) / 2 ^ min (ji5).toNat 64) = ji7 := hji7
          have hji7z : (ji5) ≤ 64 → ((IntKind.u64.wrap (a1)) / 2 ^ (ji5).toNat) = ji7 := shr_small hji7
          by_cases c8 : x0_1.length < 140737488355328
          · rw [if_pos c8] at H
            have LMc8 := Aside0.mk c8
            clear c8
            obtain ⟨y191, hy191⟩ : ∃ y_ : List Int, y_ = (x0_1 ++ [(ji7) % 256]) := ⟨_, rfl⟩
            replace H : (impl_fixed.l0 k1 y191 a1 (wrap64 (x7_1 - 1))) = some r := by first | (rw [hy191]; with_reducible exact H) | (have H2_ := (Option.bind_some _ _).symm.trans H; rw [hy191]; with_reducible exact H2_) | (have H2_ := (Option.bind_some _ _).symm.trans H; with_reducible exact H2_) | with_reducible exact H | (rw [hy191]; exact H) | exact H
            have Ny191 := Aside0.mk hy191
            clear hy191
            have H' := Aside0.mk H
            clear H
            go_wp2_with (first | ((with_reducible refine gate_builtin (b := .append) (xs := #[.tmp 14, .tmp 21]) rfl ?_); at_builtin; refine Kd.R_append (Kd.int .u8) (w0 := w0) w0.heap.size rfl (.tmp 14) (.tmp 21) 22 5 (.int .u8 0) 1 rfl Try.underlying22 info5 rfl (by decide) (by omega) u0 x0_1 ((ji7) % 256) [.int .u8 ((ji7) % 256)] (fun k_ => (P0_ k_ ∨ w.heap.size ≤ k_)) (fun _ => False) rfl rfl ?aP (fun _ hk => hk.elim) ?aF ?aO ?aB ?aS ?aL ?_; (case aP => exact rfl); (case aB => exact (by repeat (first | (with_reducible first | exact HB.out | apply below_alloc | apply pw_below_drewN | apply below_drew1) | exact HB.out))); (case aF => exact (fun k_ hk => (.inr (Nat.le_trans (by first | exact HK.out.1 | exact (show Kept w _ (fun k_ => P0_ k_) from by repeat (first | (with_reducible first | exact HK.out | apply Kept.alloc | apply Kept.drewN | apply Kept.drew) | exact HK.out)).1) hk)))); (case aO => exact (by (with_reducible repeat (first | apply Kd.R_alloc | apply Kd.R_drewN | apply Kd.R_drew)); exact HO_0.out)); (case aS => exact (below_size (by repeat (first | (with_reducible first | exact HB.out | apply below_alloc | apply pw_below_drewN | apply below_drew1) | exact HB.out)))); (case aL => have := LMc8.out; omega); intro v192 w9 ho hb hg hat; rw [← Ny191.out] at ho; have n0_ := Aside0.mk (hb); have n1_ := Aside0.mk (Kept.of_grown (S := (fun k_ => P0_ k_)) hg (by repeat (first | (with_reducible first | exact HK.out | apply Kept.alloc | apply Kept.drewN | apply Kept.drew) | exact HK.out)) (fun k_ e_ => (HO_0.out.1 k_ e_))); have n2_ := Aside0.mk (ho); clear HB; clear HK; clear HO_0; have HB := n0_; have HK := n1_; have HO193 := n2_; clear n0_ n1_ n2_; clear ho hb hg hat))
            go_roundg k1
            case measure => have := HK1.out; omega
            case rel => exact ⟨(y191), (wrap64 (x7_1 - 1)), (by first | rfl | (simp; done) | (simp [*]; done)), H', ⟨by have := HK1.out; omega⟩, ⟨by (with_reducible repeat (first | apply Kd.R_alloc | apply Kd.R_drewN | apply Kd.R_drew)); exact HO193.out⟩, ⟨by repeat (first | (with_reducible first | exact HK.out | apply Kept.alloc | apply Kept.drewN | apply Kept.drew) | exact HK.out)⟩, ⟨by repeat (first | (with_reducible first | exact HB.out | apply below_alloc | apply pw_below_drewN | apply below_drew1) | exact HB.out)⟩⟩
          · rw [if_neg c8] at H
            exact absurd H (by simp)
        · rw [if_neg c6] at H
          exact absurd H (by simp)
      · rw [if_neg c4] at H
        have c4b0 : decide (0 ≤ x7_1) = false := decide_eq_false c4
        clear c4
        obtain rfl := Option.some.inj H
        go_wp2
        go_ret
        exact ⟨_, by first | rfl | (simp [errW_none, errW_some] <;> rfl) | (simp [*, errW_none, errW_some] <;> rfl), by (with_reducible repeat (first | apply Kd.R_alloc | apply Kd.R_drewN | apply Kd.R_drew)); exact HO_0.out, by repeat (first | (with_reducible first | exact HB.out | apply below_alloc | apply pw_below_drewN | apply below_drew1) | exact HB.out), by repeat (first | (with_reducible first | exact HK.out | apply Kept.alloc | apply Kept.drewN | apply Kept.drew) | exact HK.out)⟩

/-! ### bits_RotateLeft32: function 27 -/
def bits_RotateLeft32.f (a0 : Int) (a1 : Int) : Option (Int) := if 0 ≤ (Go.bits .and .u64 (IntKind.u64.wrap (a1)) 31) then (if 0 ≤ (IntKind.u64.wrap (32 - (Go.bits .and .u64 (IntKind.u64.wrap (a1)) 31))) then (some (Go.bits .or .u32 (shl .u32 a0 (Go.bits .and .u64 (IntKind.u64.wrap (a1)) 31)) (shr .u32 a0 (IntKind.u64.wrap (32 - (Go.bits .and .u64 (IntKind.u64.wrap (a1)) 31)))))) else (none)) else (none)
set_option maxHeartbeats 8000000 in
set_option maxRecDepth 100000 in
theorem bits_RotateLeft32.calls (a0 : Int) (a1 : Int) (r : Int) (w : World) (h : bits_RotateLeft32.f a0 a1 = some r) :
    Calls Try.prog 27 #[.int .u32 a0, .int .i64 a1] w fun e w' => e = .returned (.int .u32 r) ∧ Drawn0 w w' := by
  have H : (if 0 ≤ (Go.bits .and .u64 (IntKind.u64.wrap (a1)) 31) then (if 0 ≤ (IntKind.u64.wrap (32 - (Go.bits .and .u64 (IntKind.u64.wrap (a1)) 31))) then (some (Go.bits .or .u32 (shl .u32 a0 (Go.bits .and .u64 (IntKind.u64.wrap (a1)) 31)) (shr .u32 a0 (IntKind.u64.wrap (32 - (Go.bits .and .u64 (IntKind.u64.wrap (a1)) 31)))))) else (none)) else (none)) = some r := h
  clear h
  obtain ⟨ji3, hji3⟩ : ∃ j_ : Int, (Go.bits .and .u64 (IntKind.u64.wrap (a1)) 31) = j_ := ⟨_, rfl⟩
  replace H : (if 0 ≤ (ji3) then (if 0 ≤ (IntKind.u64.wrap (32 - (ji3))) then (some (Go.bits .or .u32 (shl .u32 a0 (ji3)) (shr .u32 a0 (IntKind.u64.wrap (32 - (ji3)))))) else (none)) else (none)) = some r := by first | (rw [hji3] at H; exact H) | (simp only [hji3] at H ⊢; exact H)
  by_cases c4 : 0 ≤ (ji3)
  · rw [if_pos c4] at H
    have c4b0 := eq_true c4
    have c4b1 : decide (0 ≤ (ji3)) = true := decide_eq_true c4
    clear c4
    obtain ⟨ji5, hji5⟩ : ∃ j_ : Int, (shl .u32 a0 (ji3)) = j_ := ⟨_, rfl⟩
    replace H : (if 0 ≤ (IntKind.u64.wrap (32 - (ji3))) then (some (Go.bits .or .u32 (ji5) (shr .u32 a0 (IntKind.u64.wrap (32 - (ji3)))))) else (none)) = some r := by first | (rw [hji5] at H; exact H) | (simp only [hji5] at H ⊢; exact H)
    have hji5_ : (IntKind.u32.wrap (a0 * 2 ^ min (ji3).toNat 32)) = ji5 := hji5
    have hji5z : (ji3) ≤ 32 → (IntKind.u32.wrap (a0 * 2 ^ (ji3).toNat)) = ji5 := shl_small hji5
    obtain ⟨ji6, hji6⟩ : ∃ j_ : Int, (IntKind.u64.wrap (32 - (ji3))) = j_ := ⟨_, rfl⟩
    replace H : (if 0 ≤ (ji6) then (some (Go.bits .or .u32 (ji5) (shr .u32 a0 (ji6)))) else (none)) = some r := by first | (rw [hji6] at H; exact H) | (simp only [hji6] at H ⊢; exact H)
    by_cases c7 : 0 ≤ (ji6)
    · rw [if_pos c7] at H
      have c7b0 := eq_true c7
      have c7b1 : decide (0 ≤ (ji6)) = true := decide_eq_true c7
      clear c7
      obtain ⟨ji8, hji8⟩ : ∃ j_ : Int, (shr .u32 a0 (ji6)) = j_ := ⟨_, rfl⟩
      replace H : (some (Go.bits .or .u32 (ji5) (ji8))) = some r := by first | (rw [hji8] at H; exact H) | (simp only [hji8] at H ⊢; exact H)
      have hji8_ : (a0 / 2 ^ min (ji6).toNat 32) = ji8 := hji8
      have hji8z : (ji6) ≤ 32 → (a0 / 2 ^ (ji6).toNat) = ji8 := shr_small hji8
      obtain rfl := Option.some.inj H
      go_enter Try.func27, Try.ntmps27
      go_wp2
      go_ret
      exact ⟨by first | rfl | (simp; done) | (simp only [← hji3, ← hji5, ← hji6, ← hji8] <;> (first | rfl | simp)) | (simp [*]; done), by repeat (first | exact Drawn0.refl _ | apply Drawn0.step)⟩
    · rw [if_neg c7] at H
      exact absurd H (by simp)
  · rw [if_neg c4] at H
    exact absurd H (by simp)

set_option maxHeartbeats 8000000 in
set_option maxRecDepth 100000 in
theorem bits_RotateLeft32.same (a0 : Int) (a1 : Int) (r : Int) (w : World) (h : bits_RotateLeft32.f a0 a1 = some r) :
    Calls Try.prog 27 #[.int .u32 a0, .int .i64 a1] w fun e w' => e = .returned (.int .u32 r) ∧ w' = w := by
  have H : (if 0 ≤ (Go.bits .and .u64 (IntKind.u64.wrap (a1)) 31) then (if 0 ≤ (IntKind.u64.wrap (32 - (Go.bits .and .u64 (IntKind.u64.wrap (a1)) 31))) then (some (Go.bits .or .u32 (shl .u32 a0 (Go.bits .and .u64 (IntKind.u64.wrap (a1)) 31)) (shr .u32 a0 (IntKind.u64.wrap (32 - (Go.bits .and .u64 (IntKind.u64.wrap (a1)) 31)))))) else (none)) else (none)) = some r := h
  clear h
  obtain ⟨ji3, hji3⟩ : ∃ j_ : Int, (Go.bits .and .u64 (IntKind.u64.wrap (a1)) 31) = j_ := ⟨_, rfl⟩
  replace H : (if 0 ≤ (ji3) then (if 0 ≤ (IntKind.u64.wrap (32 - (ji3))) then (some (Go.bits .or .u32 (shl .u32 a0 (ji3)) (shr .u32 a0 (IntKind.u64.wrap (32 - (ji3)))))) else (none)) else (none)) = some r := by first | (rw [hji3] at H; exact H) | (simp only [hji3] at H ⊢; exact H)
  by_cases c4 : 0 ≤ (ji3)
  · rw [if_pos c4] at H
    have c4b0 := eq_true c4
    have c4b1 : decide (0 ≤ (ji3)) = true := decide_eq_true c4
    clear c4
    obtain ⟨ji5, hji5⟩ : ∃ j_ : Int, (shl .u32 a0 (ji3)) = j_ := ⟨_, rfl⟩
    replace H : (if 0 ≤ (IntKind.u64.wrap (32 - (ji3))) then (some (Go.bits .or .u32 (ji5) (shr .u32 a0 (IntKind.u64.wrap (32 - (ji3)))))) else (none)) = some r := by first | (rw [hji5] at H; exact H) | (simp only [hji5] at H ⊢; exact H)
    have hji5_ : (IntKind.u32.wrap (a0 * 2 ^ min (ji3).toNat 32)) = ji5 := hji5
    have hji5z : (ji3) ≤ 32 → (IntKind.u32.wrap (a0 * 2 ^ (ji3).toNat)) = ji5 := shl_small hji5
    obtain ⟨ji6, hji6⟩ : ∃ j_ : Int, (IntKind.u64.wrap (32 - (ji3))) = j_ := ⟨_, rfl⟩
    replace H : (if 0 ≤ (ji6) then (some (Go.bits .or .u32 (ji5) (shr .u32 a0 (ji6)))) else (none)) = some r := by first | (rw [hji6] at H; exact H) | (simp only [hji6] at H ⊢; exact H)
    by_cases c7 : 0 ≤ (ji6)
    · rw [if_pos c7] at H
      have c7b0 := eq_true c7
      have c7b1 : decide (0 ≤ (ji6)) = true := decide_eq_true c7
      clear c7
      obtain ⟨ji8, hji8⟩ : ∃ j_ : Int, (shr .u32 a0 (ji6)) = j_ := ⟨_, rfl⟩
      replace H : (some (Go.bits .or .u32 (ji5) (ji8))) = some r := by first | (rw [hji8] at H; exact H) | (simp only [hji8] at H ⊢; exact H)
      have hji8_ : (a0 / 2 ^ min (ji6).toNat 32) = ji8 := hji8
      have hji8z : (ji6) ≤ 32 → (a0 / 2 ^ (ji6).toNat) = ji8 := shr_small hji8
      obtain rfl := Option.some.inj H
      go_enter Try.func27, Try.ntmps27
      go_wp2
      go_ret
      exact ⟨by first | rfl | (simp; done) | (simp only [← hji3, ← hji5, ← hji6, ← hji8] <;> (first | rfl | simp)) | (simp [*]; done), rfl⟩
    · rw [if_neg c7] at H
      exact absurd H (by simp)
  · rw [if_neg c4] at H
    exact absurd H (by simp)

/-- A state of type 45 at block g of W; what its slices lead to came in by w0. -/
def IsS45 (w0 W : World) (g : Nat) (f0 : Int) (f1 : Int) (f2 : Int) (f3 : Int) : Prop := W.heap[g]? = some (.cells #[.int .u32 f0, .int .u32 f1, .int .u32 f2, .int .u32 f3] 45 (0, 0)) ∧ w0.heap.size ≤ g
theorem IsS45.grown {w0 W : World} {g : Nat} {f0 : Int} {f1 : Int} {f2 : Int} {f3 : Int} {W1 : World} {row : Option Nat} (h : IsS45 w0 W g f0 f1 f2 f3) (hw : W.grownBy W1 row) (hne : some g ≠ row) : IsS45 w0 W1 g f0 f1 f2 f3 := by
  obtain ⟨hb, hg⟩ := h
  exact ⟨blk_grown hb hw hne, hg⟩
theorem IsS45.own_neN {w0 W : World} {g : Nat} {f0 : Int} {f1 : Int} {f2 : Int} {f3 : Int} {α : Type} {d : Kd α} {e : Nat} {base : Nat} {ok : Nat → Prop} {v : Value} {xs : List α} (h : IsS45 w0 W g f0 f1 f2 f3) (ho : Kd.N d e W base ok v xs) (ht : e ≠ 45) : some g ≠ v.ownBlock := by
  obtain ⟨hb, hg⟩ := h
  exact Kd.N_ne ho hb ht
theorem IsS45.fresh {w0 W : World} {g : Nat} {f0 : Int} {f1 : Int} {f2 : Int} {f3 : Int} (h : IsS45 w0 W g f0 f1 f2 f3) : ∀ k, W.heap.size ≤ k → k ≠ g := by
  obtain ⟨hb, hg⟩ := h
  exact Kd.freshB hb
theorem IsS45.kept {w0 W : World} {g : Nat} {f0 : Int} {f1 : Int} {f2 : Int} {f3 : Int} {W1 : World} {S : Nat → Prop} (h : IsS45 w0 W g f0 f1 f2 f3) (hk : Kept W W1 S) (hne : ¬ S g) : IsS45 w0 W1 g f0 f1 f2 f3 := by
  obtain ⟨hb, hg⟩ := h
  exact ⟨blk_kept hb hk hne, hg⟩
theorem IsS45.below {w0 W : World} {g : Nat} {f0 : Int} {f1 : Int} {f2 : Int} {f3 : Int} {W1 : World} (h : IsS45 w0 W g f0 f1 f2 f3) (hw : Below W.heap.size W W1) : IsS45 w0 W1 g f0 f1 f2 f3 := h.grown (grown_of_below hw none) (by simp)
theorem IsS45.alloc {w0 W : World} {g : Nat} {f0 : Int} {f1 : Int} {f2 : Int} {f3 : Int} (h : IsS45 w0 W g f0 f1 f2 f3) (o : Obj) : IsS45 w0 (W.alloc o) g f0 f1 f2 f3 := h.below (below_alloc (Below.refl _ _) o)
theorem IsS45.drewN {w0 W : World} {g : Nat} {f0 : Int} {f1 : Int} {f2 : Int} {f3 : Int} (h : IsS45 w0 W g f0 f1 f2 f3) (m : Nat) : IsS45 w0 (W.drewN m) g f0 f1 f2 f3 := h
theorem IsS45.drew {w0 W : World} {g : Nat} {f0 : Int} {f1 : Int} {f2 : Int} {f3 : Int} (h : IsS45 w0 W g f0 f1 f2 f3) : IsS45 w0 W.drew g f0 f1 f2 f3 := h
theorem IsS45.at_ {w0 W : World} {g : Nat} {f0 : Int} {f1 : Int} {f2 : Int} {f3 : Int} {w' : World} {m : Nat} (hq : W.drewN m = w') (h : IsS45 w0 W g f0 f1 f2 f3) : IsS45 w0 w' g f0 f1 f2 f3 := by subst hq; exact IsS45.drewN h m
theorem IsS45.apart {w0 W : World} {g : Nat} {f0 : Int} {f1 : Int} {f2 : Int} {f3 : Int} {α : Type} {d : Kd α} {e : Nat} {base : Nat} {ok : Nat → Prop} {v : Value} {xs : List α} (h : IsS45 w0 W g f0 f1 f2 f3) (ho : d.R e W base ok v xs) (ht : ∀ q, q ∈ e :: d.E → q ≠ 45) : d.R e W base (fun k => ok k ∧ k ≠ g) v xs := by
  obtain ⟨hb, hg⟩ := h
  exact Kd.R_types ho hb ht
theorem IsS45.own_ne {w0 W : World} {g : Nat} {f0 : Int} {f1 : Int} {f2 : Int} {f3 : Int} {α : Type} {d : Kd α} {e : Nat} {base : Nat} {ok : Nat → Prop} {v : Value} {xs : List α} (h : IsS45 w0 W g f0 f1 f2 f3) (ho : d.R e W base ok v xs) (ht : e ≠ 45) : some g ≠ v.ownBlock := by
  obtain ⟨hb, hg⟩ := h
  exact Kd.R_ne ho hb ht
theorem IsS45.apartQ {w0 W : World} {g : Nat} {f0 : Int} {f1 : Int} {f2 : Int} {f3 : Int} {α : Type} {d : Kd α} {e : Nat} {base : Nat} {ok : Nat → Prop} {v : Value} {xs : List α} (h : IsS45 w0 W g f0 f1 f2 f3) (ho : d.Q e W base ok v xs) (ht : ∀ q, q ∈ e :: d.E → q ≠ 45) : d.Q e W base (fun k => ok k ∧ k ≠ g) v xs := by
  obtain ⟨hb, hg⟩ := h
  exact Kd.Q_types ho hb ht
theorem IsS45.own_neQ {w0 W : World} {g : Nat} {f0 : Int} {f1 : Int} {f2 : Int} {f3 : Int} {α : Type} {d : Kd α} {e : Nat} {base : Nat} {ok : Nat → Prop} {v : Value} {xs : List α} (h : IsS45 w0 W g f0 f1 f2 f3) (ho : d.Q e W base ok v xs) (ht : e ≠ 45) : some g ≠ v.ownBlock := by
  obtain ⟨hb, hg⟩ := h
  exact Kd.Q_ne ho hb ht
theorem IsS45.apartS {w0 W : World} {g : Nat} {f0 : Int} {f1 : Int} {f2 : Int} {f3 : Int} {α : Type} {d : Kd α} {e : Nat} {base : Nat} {ok : Nat → Prop} {v : Value} {xs : List α} (h : IsS45 w0 W g f0 f1 f2 f3) (ho : d.S e W base ok v xs) (ht : ∀ q, q ∈ e :: d.E → q ≠ 45) : d.S e W base (fun k => ok k ∧ k ≠ g) v xs := by
  obtain ⟨hb, hg⟩ := h
  exact Kd.S_types ho hb ht
theorem IsS45.own_neS {w0 W : World} {g : Nat} {f0 : Int} {f1 : Int} {f2 : Int} {f3 : Int} {α : Type} {d : Kd α} {e : Nat} {base : Nat} {ok : Nat → Prop} {v : Value} {xs : List α} (h : IsS45 w0 W g f0 f1 f2 f3) (ho : d.S e W base ok v xs) (ht : e ≠ 45) : some g ≠ v.ownBlock := by
  obtain ⟨hb, hg⟩ := h
  exact Kd.S_ne ho hb ht
theorem IsS45.lt {w0 W : World} {g : Nat} {f0 : Int} {f1 : Int} {f2 : Int} {f3 : Int} (h : IsS45 w0 W g f0 f1 f2 f3) : g < W.heap.size := by
  obtain ⟨hb, hg⟩ := h
  exact blk_lt hb
theorem IsS45.ge {w0 W : World} {g : Nat} {f0 : Int} {f1 : Int} {f2 : Int} {f3 : Int} (h : IsS45 w0 W g f0 f1 f2 f3) : w0.heap.size ≤ g := by
  obtain ⟨hb, hg⟩ := h
  exact hg
theorem IsS45.ne_blk {w0 W : World} {g : Nat} {f0 : Int} {f1 : Int} {f2 : Int} {f3 : Int} {a : Nat} {cs : Array Value} {t : TypeId} {fr : Nat × Nat} (h : IsS45 w0 W g f0 f1 f2 f3) (hb2 : W.heap[a]? = some (.cells cs t fr)) (ht : t ≠ 45) : g ≠ a := by
  obtain ⟨hb, hg⟩ := h
  rintro rfl
  rw [hb] at hb2
  injection hb2 with hb2
  injection hb2 with _ ht2
  exact ht ht2.symm
theorem IsS45.far {w0 W : World} {g : Nat} {f0 : Int} {f1 : Int} {f2 : Int} {f3 : Int} {p : Addr} (h : IsS45 w0 W g f0 f1 f2 f3) (hne : g ≠ p.block) (u : Value) : IsS45 w0 (W.setCell p u) g f0 f1 f2 f3 := by
  obtain ⟨hb, hg⟩ := h
  exact ⟨blk_far hb hne u, hg⟩
theorem cellS45_0 {W : World} {g : Nat} {f0 : Int} {f1 : Int} {f2 : Int} {f3 : Int} (h : W.heap[g]? = some (.cells #[.int .u32 f0, .int .u32 f1, .int .u32 f2, .int .u32 f3] 45 (0, 0))) : W.cell? ⟨g, 0, none⟩ = some (.int .u32 f0) := (blk_cell h 0).trans rfl
theorem IsS45.set_0 {w0 W : World} {g : Nat} {f0 : Int} {f1 : Int} {f2 : Int} {f3 : Int} (h : IsS45 w0 W g f0 f1 f2 f3) (x : Int) : IsS45 w0 (W.setCell ⟨g, 0, none⟩ (.int .u32 x)) g x f1 f2 f3 := by
  obtain ⟨hb, hg⟩ := h
  exact ⟨by simpa using blk_set hb 0 (.int .u32 x), hg⟩
theorem cellS45_1 {W : World} {g : Nat} {f0 : Int} {f1 : Int} {f2 : Int} {f3 : Int} (h : W.heap[g]? = some (.cells #[.int .u32 f0, .int .u32 f1, .int .u32 f2, .int .u32 f3] 45 (0, 0))) : W.cell? ⟨g, 1, none⟩ = some (.int .u32 f1) := (blk_cell h 1).trans rfl
theorem IsS45.set_1 {w0 W : World} {g : Nat} {f0 : Int} {f1 : Int} {f2 : Int} {f3 : Int} (h : IsS45 w0 W g f0 f1 f2 f3) (x : Int) : IsS45 w0 (W.setCell ⟨g, 1, none⟩ (.int .u32 x)) g f0 x f2 f3 := by
  obtain ⟨hb, hg⟩ := h
  exact ⟨by simpa using blk_set hb 1 (.int .u32 x), hg⟩
theorem cellS45_2 {W : World} {g : Nat} {f0 : Int} {f1 : Int} {f2 : Int} {f3 : Int} (h : W.heap[g]? = some (.cells #[.int .u32 f0, .int .u32 f1, .int .u32 f2, .int .u32 f3] 45 (0, 0))) : W.cell? ⟨g, 2, none⟩ = some (.int .u32 f2) := (blk_cell h 2).trans rfl
theorem IsS45.set_2 {w0 W : World} {g : Nat} {f0 : Int} {f1 : Int} {f2 : Int} {f3 : Int} (h : IsS45 w0 W g f0 f1 f2 f3) (x : Int) : IsS45 w0 (W.setCell ⟨g, 2, none⟩ (.int .u32 x)) g f0 f1 x f3 := by
  obtain ⟨hb, hg⟩ := h
  exact ⟨by simpa using blk_set hb 2 (.int .u32 x), hg⟩
theorem cellS45_3 {W : World} {g : Nat} {f0 : Int} {f1 : Int} {f2 : Int} {f3 : Int} (h : W.heap[g]? = some (.cells #[.int .u32 f0, .int .u32 f1, .int .u32 f2, .int .u32 f3] 45 (0, 0))) : W.cell? ⟨g, 3, none⟩ = some (.int .u32 f3) := (blk_cell h 3).trans rfl
theorem IsS45.set_3 {w0 W : World} {g : Nat} {f0 : Int} {f1 : Int} {f2 : Int} {f3 : Int} (h : IsS45 w0 W g f0 f1 f2 f3) (x : Int) : IsS45 w0 (W.setCell ⟨g, 3, none⟩ (.int .u32 x)) g f0 f1 f2 x := by
  obtain ⟨hb, hg⟩ := h
  exact ⟨by simpa using blk_set hb 3 (.int .u32 x), hg⟩
theorem IsS45.new (w0 W : World) (f0 : Int) (f1 : Int) (f2 : Int) (f3 : Int) (hB : Below w0.heap.size w0 W) : IsS45 w0 (W.alloc (.cells #[.int .u32 f0, .int .u32 f1, .int .u32 f2, .int .u32 f3] 45)) W.heap.size f0 f1 f2 f3 := ⟨by simpa using heap_alloc_new W _, hB.size⟩

/-! ### impl_stirrer_stir: function 25 -/
def stir1 (a b c d v : Int) : Option (Int × Int × Int × Int) :=
  (bits_RotateLeft32.f ((b + Go.bits .xor .u32 a (v % 4294967296) * 16777619 % 4294967296) % 4294967296) 7).bind fun b1 =>
  (bits_RotateLeft32.f (Go.bits .xor .u32 c b1) 13).bind fun c1 =>
  (bits_RotateLeft32.f ((d + c1) % 4294967296) 17).bind fun d1 =>
  some (Go.bits .xor .u32 (Go.bits .xor .u32 a (v % 4294967296) * 16777619 % 4294967296) d1, b1, c1, d1)
def stirAll : List Int → Int → Int → Int → Int → Option (Int × Int × Int × Int)
  | [], a, b, c, d => some (a, b, c, d)
  | v :: l, a, b, c, d => (stir1 a b c d v).bind fun r => stirAll l r.1 r.2.1 r.2.2.1 r.2.2.2
def impl_stirrer_stir.f (s0_0 : Int) (s0_1 : Int) (s0_2 : Int) (s0_3 : Int) (l1 : List Int) : Option (Int × Int × Int × Int) :=
  if l1.length < 4611686018427387904 then stirAll l1 s0_0 s0_1 s0_2 s0_3 else none
theorem stirDrop (l : List Int) (i : Nat) (h : i < l.length) : l.drop i = rd l (i : Int) :: l.drop (i + 1) := by
  rw [List.drop_eq_getElem_cons h]
  congr 1
  simp [rd, List.getD_eq_getElem?_getD, h]
set_option maxHeartbeats 8000000 in
set_option maxRecDepth 100000 in
theorem impl_stirrer_stir.calls (g : Nat) (s0_0 : Int) (s0_1 : Int) (s0_2 : Int) (s0_3 : Int) (A1 : Option Addr) (c1 : Nat) (l1 : List Int) (r1 : Int) (r2 : Int) (r3 : Int) (r4 : Int) (w0 w : World) (hI : IsS45 w0 w g s0_0 s0_1 s0_2 s0_3) (hB : Below w0.heap.size w0 w) (hr1 : Kd.C (Kd.int .u8) w A1 l1.length l1) (hc1 : l1.length ≤ c1) (hf1 : ∀ ad, A1 = some ad → 0 < l1.length → ad.block ≠ g) (h : impl_stirrer_stir.f s0_0 s0_1 s0_2 s0_3 l1 = some (r1, r2, r3, r4)) :
    Calls Try.prog 25 #[.pointer (some ⟨g, 0, none⟩), .slice A1 l1.length c1] w fun e w' => e = .returned (.tuple #[]) ∧ IsS45 w0 w' g r1 r2 r3 r4 ∧ Below w0.heap.size w0 w' ∧ KeepBut w w' g none := by
  unfold impl_stirrer_stir.f at h
  by_cases hlen : l1.length < 4611686018427387904
  · rw [if_pos hlen] at h
    have HR := Aside0.mk hr1
    have HF := Aside0.mk hf1
    clear hr1 hf1
    have HI := Aside0.mk hI
    have HB := Aside0.mk hB
    have HS := Aside0.mk h
    clear hI hB h
    go_enter Try.func25, Try.ntmps25
    go_wp2
    go_loopg [8] l1.length (fun kq v8 w' => ∃ (x a b c d : Int), v8 = .int .i64 x ∧ Aside0 (0 ≤ x ∧ x + kq = l1.length) ∧ Aside0 (stirAll (l1.drop x.toNat) a b c d = some (r1, r2, r3, r4)) ∧ Aside0 (IsS45 w0 w' g a b c d) ∧ Aside0 (Below w0.heap.size w0 w') ∧ Aside0 (KeepBut w w' g none))
    case atStart => exact ⟨0, s0_0, s0_1, s0_2, s0_3, rfl, ⟨by omega⟩, HS, HI, HB, ⟨KeepBut.refl _ _ _⟩⟩
    case round =>
      obtain ⟨x, a, b, c, d, rfl, Hk, HA, HI, HB, HK⟩ := hrel
      have h0 : 0 ≤ x := Hk.out.1
      by_cases hlt : x < (l1.length : Int)
      · have hltb : decide (x < (l1.length : Int)) = true := decide_eq_true hlt
        have hs := HA.out
        rw [stirDrop l1 x.toNat (by omega), Int.toNat_of_nonneg h0] at hs
        simp only [stirAll, stir1, Option.bind_eq_some_iff] at hs
        obtain ⟨q, ⟨b1, hb1, c2, hc2, d1, hd1, hq⟩, hs⟩ := hs
        simp only [Option.some.injEq] at hq
        subst hq
        clear HA
        have HA := Aside0.mk hs
        clear hs
        have HB1 := Aside0.mk hb1
        have HC2 := Aside0.mk hc2
        have HD1 := Aside0.mk hd1
        clear hb1 hc2 hd1
        obtain ⟨HG, hge⟩ := HI.out
        obtain ⟨ad, ea, hx⟩ := Kd.at_int HR.out x h0 hlt
        have hne := HF.out ad ea (by omega)
        subst ea
        have hxw := keep_cell HK.out hx (by unfold Addr.add; split <;> exact hne)
        clear hx
        have e0 := cellS45_0 HG
        have f0 := blk_frozen HG 0
        have HGr := Aside0.mk HG
        clear HG
        go_wp2
        obtain ⟨a1, ha1⟩ : ∃ a1 : Int, a1 = Go.bits .xor .u32 a (rd l1 x % 4294967296) * 16777619 % 4294967296 := ⟨_, rfl⟩
        rw [← ha1]
        rw [← ha1] at HA HB1
        have Ha1 := Aside0.mk ha1
        clear ha1 hxw
        obtain ⟨W1, hW1⟩ : ∃ W_ : World, W_ = (wr.setCell ⟨g, 0, none⟩ (.int .u32 a1)).drew := ⟨_, rfl⟩
        have HG1 : Aside0 (W1.heap[g]? = some (.cells #[.int .u32 a1, .int .u32 b, .int .u32 c, .int .u32 d] 45 (0, 0))) := ⟨by rw [hW1]; exact blk_drew (blk_put HGr.out 0 _ rfl)⟩
        have HBW1 : Aside0 (Below w0.heap.size w0 W1) := ⟨by rw [hW1]; exact below_drew1 (below_set HB.out hge)⟩
        have HKW1 : Aside0 (KeepBut w W1 g none) := ⟨by rw [hW1]; exact (HK.out.set_ 0 _)⟩
        refine wp_region_still_tail 13 (by kernel_rfl) (by kernel_rfl) ?_
        change wpStill _ _ ((wr.setCell ⟨g, 0, none⟩ (.int .u32 a1)).drew) (fun a' => wpList _ _ _ _ a' ((wr.setCell ⟨g, 0, none⟩ (.int .u32 a1)).drew)) _ _
        rw [← hW1]
        clear hW1 e0 f0
        simp only [List.take_succ_cons, List.take_zero, List.drop_succ_cons, List.drop_zero]
        have e1_0 := cellS45_0 HG1.out
        have f1_0 := blk_frozen HG1.out 0
        have e1_1 := cellS45_1 HG1.out
        have f1_1 := blk_frozen HG1.out 1
        have e1_2 := cellS45_2 HG1.out
        have f1_2 := blk_frozen HG1.out 2
        have e1_3 := cellS45_3 HG1.out
        have f1_3 := blk_frozen HG1.out 3
        repeat still_step
        still_call (bits_RotateLeft32.same _ _ _ _ HB1.out)
        repeat still_step
        refine wpStill_nil ?_
        go_wp2
        obtain ⟨W2, hW2⟩ : ∃ W_ : World, W_ = (W1.setCell ⟨g, 1, none⟩ (.int .u32 b1)).drew := ⟨_, rfl⟩
        have HG2 : Aside0 (W2.heap[g]? = some (.cells #[.int .u32 a1, .int .u32 b1, .int .u32 c, .int .u32 d] 45 (0, 0))) := ⟨by rw [hW2]; exact blk_drew (blk_put HG1.out 1 _ rfl)⟩
        have HBW2 : Aside0 (Below w0.heap.size w0 W2) := ⟨by rw [hW2]; exact below_drew1 (below_set HBW1.out hge)⟩
        have HKW2 : Aside0 (KeepBut w W2 g none) := ⟨by rw [hW2]; exact (HKW1.out.set_ 1 _)⟩
        refine wp_region_still_tail 13 (by kernel_rfl) (by kernel_rfl) ?_
        change wpStill _ _ ((W1.setCell ⟨g, 1, none⟩ (.int .u32 b1)).drew) (fun a' => wpList _ _ _ _ a' ((W1.setCell ⟨g, 1, none⟩ (.int .u32 b1)).drew)) _ _
        rw [← hW2]
        clear hW2 e1_0 f1_0 e1_1 f1_1 e1_2 f1_2 e1_3 f1_3
        simp only [List.take_succ_cons, List.take_zero, List.drop_succ_cons, List.drop_zero]
        have e2_0 := cellS45_0 HG2.out
        have f2_0 := blk_frozen HG2.out 0
        have e2_1 := cellS45_1 HG2.out
        have f2_1 := blk_frozen HG2.out 1
        have e2_2 := cellS45_2 HG2.out
        have f2_2 := blk_frozen HG2.out 2
        have e2_3 := cellS45_3 HG2.out
        have f2_3 := blk_frozen HG2.out 3
        repeat still_step
        still_call (bits_RotateLeft32.same _ _ _ _ HC2.out)
        repeat still_step
        refine wpStill_nil ?_
        go_wp2
        obtain ⟨W3, hW3⟩ : ∃ W_ : World, W_ = (W2.setCell ⟨g, 2, none⟩ (.int .u32 c2)).drew := ⟨_, rfl⟩
        have HG3 : Aside0 (W3.heap[g]? = some (.cells #[.int .u32 a1, .int .u32 b1, .int .u32 c2, .int .u32 d] 45 (0, 0))) := ⟨by rw [hW3]; exact blk_drew (blk_put HG2.out 2 _ rfl)⟩
        have HBW3 : Aside0 (Below w0.heap.size w0 W3) := ⟨by rw [hW3]; exact below_drew1 (below_set HBW2.out hge)⟩
        have HKW3 : Aside0 (KeepBut w W3 g none) := ⟨by rw [hW3]; exact (HKW2.out.set_ 2 _)⟩
        refine wp_region_still_tail 13 (by kernel_rfl) (by kernel_rfl) ?_
        change wpStill _ _ ((W2.setCell ⟨g, 2, none⟩ (.int .u32 c2)).drew) (fun a' => wpList _ _ _ _ a' ((W2.setCell ⟨g, 2, none⟩ (.int .u32 c2)).drew)) _ _
        rw [← hW3]
        clear hW3 e2_0 f2_0 e2_1 f2_1 e2_2 f2_2 e2_3 f2_3
        simp only [List.take_succ_cons, List.take_zero, List.drop_succ_cons, List.drop_zero]
        have e3_0 := cellS45_0 HG3.out
        have f3_0 := blk_frozen HG3.out 0
        have e3_1 := cellS45_1 HG3.out
        have f3_1 := blk_frozen HG3.out 1
        have e3_2 := cellS45_2 HG3.out
        have f3_2 := blk_frozen HG3.out 2
        have e3_3 := cellS45_3 HG3.out
        have f3_3 := blk_frozen HG3.out 3
        repeat still_step
        still_call (bits_RotateLeft32.same _ _ _ _ HD1.out)
        repeat still_step
        refine wpStill_nil ?_
        go_wp2
        obtain ⟨W4, hW4⟩ : ∃ W_ : World, W_ = (W3.setCell ⟨g, 3, none⟩ (.int .u32 d1)).drew := ⟨_, rfl⟩
        have HG4 : Aside0 (W4.heap[g]? = some (.cells #[.int .u32 a1, .int .u32 b1, .int .u32 c2, .int .u32 d1] 45 (0, 0))) := ⟨by rw [hW4]; exact blk_drew (blk_put HG3.out 3 _ rfl)⟩
        have HBW4 : Aside0 (Below w0.heap.size w0 W4) := ⟨by rw [hW4]; exact below_drew1 (below_set HBW3.out hge)⟩
        have HKW4 : Aside0 (KeepBut w W4 g none) := ⟨by rw [hW4]; exact (HKW3.out.set_ 3 _)⟩
        refine wp_region_still_tail 11 (by kernel_rfl) (by kernel_rfl) ?_
        change wpStill _ _ ((W3.setCell ⟨g, 3, none⟩ (.int .u32 d1)).drew) (fun a' => wpList _ _ _ _ a' ((W3.setCell ⟨g, 3, none⟩ (.int .u32 d1)).drew)) _ _
        rw [← hW4]
        clear hW4 e3_0 f3_0 e3_1 f3_1 e3_2 f3_2 e3_3 f3_3
        simp only [List.take_succ_cons, List.take_zero, List.drop_succ_cons, List.drop_zero]
        have e4_0 := cellS45_0 HG4.out
        have f4_0 := blk_frozen HG4.out 0
        have e4_1 := cellS45_1 HG4.out
        have f4_1 := blk_frozen HG4.out 1
        have e4_2 := cellS45_2 HG4.out
        have f4_2 := blk_frozen HG4.out 2
        have e4_3 := cellS45_3 HG4.out
        have f4_3 := blk_frozen HG4.out 3
        repeat still_step
        refine wpStill_nil ?_
        go_wp2
        obtain ⟨m, rfl⟩ : ∃ m, gk = m + 1 := ⟨gk - 1, by have := Hk.out.2; omega⟩
        go_roundg m
        case measure => omega
        case rel => exact ⟨x + 1, _, _, _, _, rfl, ⟨by have := Hk.out.2; omega⟩, ⟨by rw [show (x + 1).toNat = x.toNat + 1 from by omega]; exact HA.out⟩, ⟨⟨blk_put HG4.out 0 _ rfl, hge⟩⟩, ⟨below_set HBW4.out hge⟩, ⟨HKW4.out.set_ 0 _⟩⟩
      · have hltb : decide (x < (l1.length : Int)) = false := decide_eq_false hlt
        have hd : l1.drop x.toNat = [] := List.drop_of_length_le (by omega)
        have hs := HA.out
        rw [hd] at hs
        simp only [stirAll, Option.some.injEq, Prod.mk.injEq] at hs
        have HS2 := Aside0.mk hs
        clear hs hd
        go_wp2
        go_end0
        obtain ⟨rfl, rfl, rfl, rfl⟩ := HS2.out
        exact ⟨rfl, HI.out, HB.out, HK.out⟩
  · rw [if_neg hlen] at h; exact absurd h (by simp)

/-! ### impl_digest: function 18 -/
def impl_digest.iter : Nat → Int → Int → Int → Int → Option (Int × Int × Int × Int)
  | 0, a, b, c, d => some (a, b, c, d)
  | n + 1, a, b, c, d => (impl_stirrer_stir.f a b c d [165]).bind fun s => impl_digest.iter n s.1 s.2.1 s.2.2.1 s.2.2.2
def impl_digest.f (k : Nat) (l0 : List Int) (l1 : List Int) : Option (List Int) :=
  (impl_fixed.f k [] (l0.length : Int) 4).bind fun t1 =>
  (impl_stirrer_stir.f 1779033703 3144134277 1013904242 2773480762 t1).bind fun s1 =>
  (impl_stirrer_stir.f s1.1 s1.2.1 s1.2.2.1 s1.2.2.2 l0).bind fun s2 =>
  (impl_stirrer_stir.f s2.1 s2.2.1 s2.2.2.1 s2.2.2.2 l1).bind fun s3 =>
  (impl_fixed.f k [] (l1.length : Int) 4).bind fun t2 =>
  (impl_stirrer_stir.f s3.1 s3.2.1 s3.2.2.1 s3.2.2.2 t2).bind fun s4 =>
  (impl_digest.iter 16 s4.1 s4.2.1 s4.2.2.1 s4.2.2.2).bind fun s5 =>
  (impl_fixed.f k [] (wrap64 s5.1) 4).bind fun o1 =>
  (impl_fixed.f k o1 (wrap64 s5.2.1) 4).bind fun o2 =>
  (impl_fixed.f k o2 (wrap64 s5.2.2.1) 4).bind fun o3 =>
  impl_fixed.f k o3 (wrap64 s5.2.2.2) 4
theorem impl_digest.mono : ∀ a0 a1 k, LeO (impl_digest.f k a0 a1) (impl_digest.f (k + 1) a0 a1) := by
  intro a0 a1 k
  unfold impl_digest.f
  repeat' first
      | (with_reducible exact impl_fixed.mono _ _ _ _)
      | (with_reducible exact LeO.refl _)
      | (with_reducible refine LeO.bind ?_ (fun _ => ?_))
      | exact impl_fixed.mono _ _ _ _
theorem ownBlk {A : Addr} {n c k : Nat} (h : (Value.slice (some A) n c).ownBlock = some k) : A.block = k := by
  simpa [Value.ownBlock] using h
theorem litRead (W : World) (v : Int) (e : Nat) : Kd.C (Kd.int .u8) (W.alloc (.cells #[.int .u8 v] e)) (some ⟨W.heap.size, 0, none⟩) ([v] : List Int).length [v] := by
  refine ⟨rfl, by simp, fun _ => ⟨⟨W.heap.size, 0, none⟩, rfl, ?_⟩⟩
  intro j p hj
  cases j with
  | succ j => simp at hj
  | zero =>
    simp at hj
    subst hj
    refine ⟨[.int .u8 v], rfl, rfl, ?_⟩
    intro i u hi
    cases i with
    | succ i => simp at hi
    | zero =>
      simp at hi
      subst hi
      exact (blk_cell (blk_new W (.cells #[.int .u8 v] e)) 0).trans rfl
theorem fixedNew (k : Nat) (v n : Int) (t : List Int) (w : World) (h : impl_fixed.f k [] v n = some t) :
    Calls Try.prog 19 #[.slice none 0 0, .int .i64 v, .int .i64 n] w fun e w' => ∃ A c, e = .returned (.slice A t.length c) ∧ t.length ≤ c ∧ Kd.C (Kd.int .u8) w' A t.length t ∧ (∀ ad, A = some ad → 0 < t.length → w.heap.size ≤ ad.block) ∧ Below w.heap.size w w' := by
  refine (impl_fixed.calls k (fun _ => False) (.slice none 0 0) [] v n t w w (Below.refl _ _) (Kd.R_nil _ _ _ _ _) h).mono ?_
  rintro e w' ⟨v0, rfl, hR, hB, _⟩
  obtain ⟨A, c, rfl, hl, hC⟩ := Kd.R_reads hR
  refine ⟨A, c, rfl, hl, hC, ?_, hB⟩
  rintro ad rfl hn
  rcases hR.1 ad.block (by simp [Value.ownBlock]) with h | h
  · exact h.elim
  · exact h
set_option maxHeartbeats 8000000 in
set_option maxRecDepth 100000 in
theorem impl_digest.calls (k : Nat) (A0 : Option Addr) (c0 : Nat) (l0 : List Int) (A1 : Option Addr) (c1 : Nat) (l1 : List Int) (r : List Int) (w : World) (hr0 : Kd.C (Kd.int .u8) w A0 l0.length l0) (hc0 : l0.length ≤ c0) (hr1 : Kd.C (Kd.int .u8) w A1 l1.length l1) (hc1 : l1.length ≤ c1) (h : impl_digest.f k l0 l1 = some r) :
    Calls Try.prog 18 #[.slice A0 l0.length c0, .slice A1 l1.length c1] w fun e w' => ∃ v0_ : Value, e = .returned (v0_) ∧ Kd.R (Kd.int .u8) 5 w' w.heap.size (fun _ => True) v0_ r ∧ Below w.heap.size w w' := by
  have HR0 := Aside0.mk hr0
  have HR1 := Aside0.mk hr1
  have HC0 := Aside0.mk hc0
  have HC1 := Aside0.mk hc1
  clear hr0 hr1 hc0 hc1
  unfold impl_digest.f at h
  simp only [Option.bind_eq_some_iff] at h
  obtain ⟨t1, ht1, ⟨a1, b1, x1, d1⟩, hs1, ⟨a2, b2, x2, d2⟩, hs2, ⟨a3, b3, x3, d3⟩, hs3, t2, ht2, ⟨a4, b4, x4, d4⟩, hs4, ⟨a5, b5, x5, d5⟩, hs5, o1, ho1, o2, ho2, o3, ho3, ho4⟩ := h
  have HT1 := Aside0.mk ht1
  have HS1 := Aside0.mk hs1
  have HS2 := Aside0.mk hs2
  have HS3 := Aside0.mk hs3
  have HT2 := Aside0.mk ht2
  have HS4 := Aside0.mk hs4
  have HS5 := Aside0.mk hs5
  have HO1 := Aside0.mk ho1
  have HO2 := Aside0.mk ho2
  have HO3 := Aside0.mk ho3
  have HO4 := Aside0.mk ho4
  clear ht1 hs1 hs2 hs3 ht2 hs4 hs5 ho1 ho2 ho3 ho4
  go_enter Try.func18, Try.ntmps18
  go_wp2_with (fail)
  refine (fixedNew k _ _ t1 _ HT1.out).mono ?_
  rintro e W1 ⟨A2, c2, rfl, hc2, hC2, hf2, hb2⟩
  have HB1 := Aside0.mk (below_then (below_alloc (Below.refl w.heap.size w) _) (by simp) hb2)
  have HI1 := Aside0.mk ((IsS45.new w w 1779033703 3144134277 1013904242 2773480762 (Below.refl _ _)).below hb2)
  have HF2 := Aside0.mk (fun ad (h : A2 = some ad) (hn : 0 < t1.length) => (show ad.block ≠ w.heap.size from by have := hf2 ad h hn; simp at this; omega))
  have HC2 := Aside0.mk hC2
  have HL2 := Aside0.mk hc2
  clear hc2 hC2 hf2 hb2
  go_wp2_with (fail)
  refine (impl_stirrer_stir.calls w.heap.size _ _ _ _ A2 c2 t1 a1 b1 x1 d1 w W1 HI1.out HB1.out HC2.out HL2.out HF2.out HS1.out).mono ?_
  rintro e W2 ⟨rfl, hI2, hB2, _⟩
  have HI2 := Aside0.mk hI2
  have HB2 := Aside0.mk hB2
  clear hI2 hB2
  go_wp2_with (fail)
  refine (impl_stirrer_stir.calls w.heap.size _ _ _ _ A0 c0 l0 a2 b2 x2 d2 w W2 HI2.out HB2.out (Kd.C_below HR0.out HB2.out) HC0.out (fun ad h hn => by subst h; have := Kd.C_lt HR0.out hn (by decide); omega) HS2.out).mono ?_
  rintro e W3 ⟨rfl, hI3, hB3, _⟩
  have HI3 := Aside0.mk hI3
  have HB3 := Aside0.mk hB3
  clear hI3 hB3
  go_wp2_with (fail)
  refine (impl_stirrer_stir.calls w.heap.size _ _ _ _ A1 c1 l1 a3 b3 x3 d3 w W3 HI3.out HB3.out (Kd.C_below HR1.out HB3.out) HC1.out (fun ad h hn => by subst h; have := Kd.C_lt HR1.out hn (by decide); omega) HS3.out).mono ?_
  rintro e W4 ⟨rfl, hI4, hB4, _⟩
  have HI4 := Aside0.mk hI4
  have HB4 := Aside0.mk hB4
  clear hI4 hB4
  go_wp2_with (fail)
  refine (fixedNew k _ _ t2 _ HT2.out).mono ?_
  rintro e W5 ⟨A3, c3, rfl, hc3, hC3, hf3, hb3⟩
  have HB5 := Aside0.mk (below_then HB4.out HB4.out.size hb3)
  have HI5 := Aside0.mk (HI4.out.below hb3)
  have HF3 := Aside0.mk (fun ad (h : A3 = some ad) (hn : 0 < t2.length) => (show ad.block ≠ w.heap.size from by have := hf3 ad h hn; have := IsS45.lt HI4.out; omega))
  have HC3 := Aside0.mk hC3
  have HL3 := Aside0.mk hc3
  clear hc3 hC3 hf3 hb3
  go_wp2_with (fail)
  refine (impl_stirrer_stir.calls w.heap.size _ _ _ _ A3 c3 t2 a4 b4 x4 d4 w W5 HI5.out HB5.out HC3.out HL3.out HF3.out HS4.out).mono ?_
  rintro e W6 ⟨rfl, hI6, hB6, _⟩
  have HI6 := Aside0.mk hI6
  have HB6 := Aside0.mk hB6
  clear hI6 hB6
  go_wp2_with (fail)
  go_loopg [27] 16 (fun kq v27 w' => ∃ (x a b c d : Int), v27 = .int .i64 x ∧ Aside0 (0 ≤ x ∧ x + kq = 16) ∧ Aside0 (impl_digest.iter kq a b c d = some (a5, b5, x5, d5)) ∧ Aside0 (IsS45 w w' w.heap.size a b c d) ∧ Aside0 (Below w.heap.size w w'))
  case atStart => exact ⟨0, a4, b4, x4, d4, rfl, ⟨by omega⟩, HS5, HI6, HB6⟩
  case round =>
    obtain ⟨x, a, b, c, d, rfl, Hk, HA, HI, HB⟩ := hrel
    have h0 : 0 ≤ x := Hk.out.1
    by_cases hlt : x < 16
    · obtain ⟨m, rfl⟩ : ∃ m, gk = m + 1 := ⟨gk - 1, by have := Hk.out.2; omega⟩
      have ha := HA.out
      simp only [impl_digest.iter, Option.bind_eq_some_iff] at ha
      obtain ⟨⟨a6, b6, x6, d6⟩, hs6, ha⟩ := ha
      have HS6 := Aside0.mk hs6
      have HA6 := Aside0.mk ha
      clear hs6 ha HA
      go_wp2_with (fail)
      refine (impl_stirrer_stir.calls w.heap.size _ _ _ _ _ 1 [165] a6 b6 x6 d6 w _ (HI.out.alloc _) (below_alloc HB.out _) (litRead wr 165 _) (by decide) (fun ad h hn => by cases h; have := IsS45.lt HI.out; show wr.heap.size ≠ w.heap.size; omega) HS6.out).mono ?_
      rintro e W7 ⟨rfl, hI7, hB7, _⟩
      have HI7 := Aside0.mk hI7
      have HB7 := Aside0.mk hB7
      clear hI7 hB7
      go_wp2
      go_roundg m
      case measure => omega
      case rel => exact ⟨x + 1, a6, b6, x6, d6, rfl, ⟨by have := Hk.out.2; omega⟩, HA6, HI7, HB7⟩
    · obtain rfl : gk = 0 := by have := Hk.out.2; omega
      have ha := HA.out
      simp only [impl_digest.iter, Option.some.injEq, Prod.mk.injEq] at ha
      obtain ⟨rfl, rfl, rfl, rfl⟩ := ha
      clear HA
      go_wp2_with (fail)
      obtain ⟨W8, hW8⟩ : ∃ W_ : World, W_ = wr.alloc (.cells #[] 5) := ⟨_, rfl⟩
      have HO8 : Aside0 (Kd.R (Kd.int .u8) 5 W8 w.heap.size (fun k => w.heap.size < k) (.slice (some ⟨wr.heap.size, 0, none⟩) 0 0) []) := ⟨by
        rw [hW8]
        have hlt := IsS45.lt HI.out
        exact ⟨fun k hk => by have := ownBlk hk; simp at this; omega, [], own_lit wr w.heap.size 5 .u8 [] (by omega) (by simp), Reps.none _ _⟩⟩
      have HI8 : Aside0 (IsS45 w W8 w.heap.size a b c d) := ⟨by rw [hW8]; exact HI.out.alloc _⟩
      have HB8 : Aside0 (Below w.heap.size w W8) := ⟨by rw [hW8]; exact below_alloc HB.out _⟩
      rw [← hW8]
      clear hW8
      obtain ⟨HG, hge⟩ := HI8.out
      have e0 := cellS45_0 HG
      have e1 := cellS45_1 HG
      have e2 := cellS45_2 HG
      have e3 := cellS45_3 HG
      clear HG
      go_quiet (fail)
      go_wp2_with (fail)
      go_loopg [51, 6] 4 (fun kq v51 v6 w' => ∃ (x : Int) (vo : Value) (o : List Int), v51 = .int .i64 x ∧ v6 = vo ∧ Aside0 (x = 0 ∧ o = [] ∨ x = 1 ∧ o = o1 ∨ x = 2 ∧ o = o2 ∨ x = 3 ∧ o = o3 ∨ x = 4 ∧ o = r) ∧ Aside0 (x + kq = 4) ∧ Aside0 (Kd.R (Kd.int .u8) 5 w' w.heap.size (fun k => w.heap.size < k) vo o) ∧ Aside0 (Below w.heap.size w w') ∧ Aside0 (w.heap.size < w'.heap.size))
      case atStart => exact ⟨0, _, [], rfl, rfl, ⟨.inl ⟨rfl, rfl⟩⟩, ⟨by omega⟩, HO8, ⟨pw_below_drewN HB8.out _⟩, ⟨IsS45.lt HI8.out⟩⟩
      case round =>
        clear e0 e1 e2 e3
        obtain ⟨x9, vo, o9, rfl, rfl, Ho, Hq, HR9, HB9, HL9⟩ := hrel
        rcases Ho.out with ⟨rfl, rfl⟩ | ⟨rfl, rfl⟩ | ⟨rfl, rfl⟩ | ⟨rfl, rfl⟩ | ⟨rfl, rfl⟩
        · have ix : ∀ w_ : World, (Instr.index 47 (.agg #[.int .u32 a, .int .u32 b, .int .u32 c, .int .u32 d]) (.int .i64 0)).run Try.prog w_ = .ok (.int .u32 a) w_ := fun _ => by kernel_rfl
          go_wp2_with (fail)
          refine (impl_fixed.calls k (fun k => w.heap.size < k) _ _ _ 4 _ w wr HB9.out HR9.out HO1.out).mono ?_
          rintro e w10 ⟨v10, rfl, hR10, hB10, hK10⟩
          have HR10 := Aside0.mk (Kd.R_mono hR10 (fun k hk => hk.elim (fun h => h) (fun h => Nat.lt_of_lt_of_le HL9.out h)))
          have HB10 := Aside0.mk hB10
          have HL10 := Aside0.mk (Nat.lt_of_lt_of_le HL9.out hK10.1)
          clear hR10 hB10 hK10
          go_wp2
          obtain ⟨m, rfl⟩ : ∃ m, gk = m + 1 := ⟨gk - 1, by have := Hq.out; omega⟩
          go_roundg m
          case measure => omega
          case rel => exact ⟨1, v10, o1, rfl, rfl, ⟨.inr (.inl ⟨rfl, rfl⟩)⟩, ⟨by have := Hq.out; omega⟩, HR10, HB10, HL10⟩
        · have ix : ∀ w_ : World, (Instr.index 47 (.agg #[.int .u32 a, .int .u32 b, .int .u32 c, .int .u32 d]) (.int .i64 1)).run Try.prog w_ = .ok (.int .u32 b) w_ := fun _ => by kernel_rfl
          go_wp2_with (fail)
          refine (impl_fixed.calls k (fun k => w.heap.size < k) _ _ _ 4 _ w wr HB9.out HR9.out HO2.out).mono ?_
          rintro e w10 ⟨v10, rfl, hR10, hB10, hK10⟩
          have HR10 := Aside0.mk (Kd.R_mono hR10 (fun k hk => hk.elim (fun h => h) (fun h => Nat.lt_of_lt_of_le HL9.out h)))
          have HB10 := Aside0.mk hB10
          have HL10 := Aside0.mk (Nat.lt_of_lt_of_le HL9.out hK10.1)
          clear hR10 hB10 hK10
          go_wp2
          obtain ⟨m, rfl⟩ : ∃ m, gk = m + 1 := ⟨gk - 1, by have := Hq.out; omega⟩
          go_roundg m
          case measure => omega
          case rel => exact ⟨2, v10, o2, rfl, rfl, ⟨.inr (.inr (.inl ⟨rfl, rfl⟩))⟩, ⟨by have := Hq.out; omega⟩, HR10, HB10, HL10⟩
        · have ix : ∀ w_ : World, (Instr.index 47 (.agg #[.int .u32 a, .int .u32 b, .int .u32 c, .int .u32 d]) (.int .i64 2)).run Try.prog w_ = .ok (.int .u32 c) w_ := fun _ => by kernel_rfl
          go_wp2_with (fail)
          refine (impl_fixed.calls k (fun k => w.heap.size < k) _ _ _ 4 _ w wr HB9.out HR9.out HO3.out).mono ?_
          rintro e w10 ⟨v10, rfl, hR10, hB10, hK10⟩
          have HR10 := Aside0.mk (Kd.R_mono hR10 (fun k hk => hk.elim (fun h => h) (fun h => Nat.lt_of_lt_of_le HL9.out h)))
          have HB10 := Aside0.mk hB10
          have HL10 := Aside0.mk (Nat.lt_of_lt_of_le HL9.out hK10.1)
          clear hR10 hB10 hK10
          go_wp2
          obtain ⟨m, rfl⟩ : ∃ m, gk = m + 1 := ⟨gk - 1, by have := Hq.out; omega⟩
          go_roundg m
          case measure => omega
          case rel => exact ⟨3, v10, o3, rfl, rfl, ⟨.inr (.inr (.inr (.inl ⟨rfl, rfl⟩)))⟩, ⟨by have := Hq.out; omega⟩, HR10, HB10, HL10⟩
        · have ix : ∀ w_ : World, (Instr.index 47 (.agg #[.int .u32 a, .int .u32 b, .int .u32 c, .int .u32 d]) (.int .i64 3)).run Try.prog w_ = .ok (.int .u32 d) w_ := fun _ => by kernel_rfl
          go_wp2_with (fail)
          refine (impl_fixed.calls k (fun k => w.heap.size < k) _ _ _ 4 _ w wr HB9.out HR9.out HO4.out).mono ?_
          rintro e w10 ⟨v10, rfl, hR10, hB10, hK10⟩
          have HR10 := Aside0.mk (Kd.R_mono hR10 (fun k hk => hk.elim (fun h => h) (fun h => Nat.lt_of_lt_of_le HL9.out h)))
          have HB10 := Aside0.mk hB10
          have HL10 := Aside0.mk (Nat.lt_of_lt_of_le HL9.out hK10.1)
          clear hR10 hB10 hK10
          go_wp2
          obtain ⟨m, rfl⟩ : ∃ m, gk = m + 1 := ⟨gk - 1, by have := Hq.out; omega⟩
          go_roundg m
          case measure => omega
          case rel => exact ⟨4, v10, r, rfl, rfl, ⟨.inr (.inr (.inr (.inr (⟨rfl, rfl⟩))))⟩, ⟨by have := Hq.out; omega⟩, HR10, HB10, HL10⟩
        · go_wp2
          go_ret
          exact ⟨_, rfl, Kd.R_mono HR9.out (fun _ _ => trivial), HB9.out⟩

end Go.Proofs.Ytobcmccoadeocaa.PFnExactInitialKeys
