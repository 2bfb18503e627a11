-- PRINTED BY print.sh 35421559b90ae4d0a3588c463048766b98c2df88dd9212a6774a882060cdf62d: not written by this session
import Derived.Test.YtffmebjogdemhaaPFnExactGetPrefixx0
namespace Go.Proofs.Ytffmebjogdemhaa.PFnExactGetPrefix
open Go.RowKit Go.Proofs.YtffmebjogdemhaaW.PrintWords Go.Proofs.YtffmebjogdemhaaW.PrintLast Go.Proofs.YtffmebjogdemhaaW.PrintMore
attribute [local go_sem] max2_int min2_int max_two min_two max_three min_three max_four min_four   -- for this text's walks alone
set_option linter.unusedVariables false
set_option linter.unusedSimpArgs false

/-! ### laws_toByteS: function 35 -/
def laws_toByteS.l0 : Nat → List Int → List Int → Int → Option (List Int)
  | 0, _, _, _ => none
  | k + 1, x0, x3, x4 => if x4 < (x0.length : Int) then (if 0 ≤ x4 then (if x4 < (x3.length : Int) then (laws_toByteS.l0 k x0 (x3.set (x4 : Int).toNat (rd x0 x4)) (wrap64 (x4 + 1))) else (none)) else (none)) else (some x3)
def laws_toByteS.f (k : Nat) (l0 : List Int) : Option (List Int) := if 0 ≤ (l0.length : Int) then (if ((l0.length : Int) : Int).toNat ≤ 281474976710656 then (laws_toByteS.l0 k l0 (List.replicate ((l0.length : Int) : Int).toNat 0) 0) else (none)) else (none)
theorem laws_toByteS.mono_l : ∀ k, (∀ y0 y1 y2, LeO (laws_toByteS.l0 k y0 y1 y2) (laws_toByteS.l0 (k + 1) y0 y1 y2))
  | 0 => fun _ _ _ r h => by simp [laws_toByteS.l0] at h
  | k + 1 => by
    have ih0 := laws_toByteS.mono_l k
    · intro y0 y1 y2
      unfold laws_toByteS.l0
      repeat' first
      | (with_reducible exact ih0 _ _ _)
      | (with_reducible exact LeO.refl _)
      | (with_reducible exact LeO.none _)
      | (with_reducible refine LeO.ite ?_ ?_)
      | (with_reducible refine LeO.bind ?_ (fun _ => ?_))
      | exact ih0 _ _ _
      | exact LeO.none _
      | refine LeO.ite ?_ ?_
      | refine LeO.bind ?_ (fun _ => ?_)
theorem laws_toByteS.mono : ∀ a0 k, LeO (laws_toByteS.f k a0) (laws_toByteS.f (k + 1) a0) := by
  intro a0 k
  have ih0 := laws_toByteS.mono_l k
  unfold laws_toByteS.f
  repeat' first
      | (with_reducible exact ih0 _ _ _)
      | (with_reducible exact LeO.refl _)
      | (with_reducible exact LeO.none _)
      | (with_reducible refine LeO.ite ?_ ?_)
      | (with_reducible refine LeO.bind ?_ (fun _ => ?_))
      | exact ih0 _ _ _
      | exact LeO.none _
      | refine LeO.ite ?_ ?_
      | refine LeO.bind ?_ (fun _ => ?_)
set_option maxHeartbeats 8000000 in
set_option maxRecDepth 100000 in
theorem laws_toByteS.calls (k : Nat) (A0 : Option Addr) (c0 : Nat) (l0 : List Int) (r : List Int) (w : World) (hr0 : Kd.C (Kd.int .u8) w A0 l0.length l0) (hc0 : l0.length ≤ c0) (h : laws_toByteS.f k l0 = some r) :
    Calls Try.prog 35 #[.slice A0 l0.length c0] w fun e w' => ∃ v0_ : Value, e = .returned (v0_) ∧ Kd.R (Kd.int .u8) 5 w' w.heap.size (fun _ => True) v0_ r ∧ Below w.heap.size w w' := by
  have HR0 := Aside0.mk hr0
  have HC0 := Aside0.mk hc0
  clear hr0 hc0
  have HB := Aside0.mk (Below.refl w.heap.size w)
  have H : (if 0 ≤ (l0.length : Int) then (if ((l0.length : Int) : Int).toNat ≤ 281474976710656 then (laws_toByteS.l0 k l0 (List.replicate ((l0.length : Int) : Int).toNat 0) 0) else (none)) else (none)) = some r := h
  clear h
  by_cases c2 : 0 ≤ (l0.length : Int)
  · rw [if_pos c2] at H
    have c2b0 := eq_true c2
    have c2b1 : decide (0 ≤ (l0.length : Int)) = true := decide_eq_true c2
    clear c2
    by_cases c3 : ((l0.length : Int) : Int).toNat ≤ 281474976710656
    · rw [if_pos c3] at H
      have c3b0 := eq_true c3
      have c3b1 : decide (((l0.length : Int) : Int).toNat ≤ 281474976710656) = true := decide_eq_true c3
      clear c3
      obtain ⟨y110, hy110⟩ : ∃ y_ : List Int, y_ = (List.replicate ((l0.length : Int) : Int).toNat 0) := ⟨_, rfl⟩
      replace H : (laws_toByteS.l0 k l0 y110 0) = some r := by first | (rw [hy110]; with_reducible exact H) | (have H2_ := (Option.bind_some _ _).symm.trans H; rw [hy110]; with_reducible exact H2_) | (have H2_ := (Option.bind_some _ _).symm.trans H; with_reducible exact H2_) | with_reducible exact H | (rw [hy110]; exact H) | exact H
      have Ny110 := Aside0.mk hy110
      clear hy110
      have H' := Aside0.mk H
      clear H
      go_enter Try.func35, Try.ntmps35
      go_wp2_with (first | ((with_reducible refine gate_dst (N := 7) rfl ?_); refine Kd.R_make (Kd.int .u8) _ 5 rfl (N := 7) rfl 35 _ _ rfl (l0.length : Int) rfl rfl Try.underlying35 (.int .u8 0) 1 info5 rfl (by decide) (by omega) 0 (ok := fun _ => True) (okp := fun _ => True) rfl (fun _ hk => hk) trivial (of_decide_eq_true (by first | (with_reducible assumption) | assumption)) (Nat.le_trans (Nat.mul_le_mul_right _ (of_decide_eq_true (by first | (with_reducible assumption) | assumption) : (l0.length : Int).toNat ≤ 281474976710656)) (by omega)) (Below.refl _ _) (Nat.le_refl _) ?_; intro v111 w4 ho5 hb hg_ hnew_; clear hg_ hnew_; (first | rw [← Ny110.out] at ho5 | (simp only [Int.reduceToNat] at ho5; rw [← Ny110.out] at ho5)); have n0_ := Aside0.mk (Kd.R_lower ho5 (below_size (by repeat (first | (with_reducible first | exact HB.out | apply below_alloc | apply pw_below_drewN | apply below_drew1) | exact HB.out)))); have n1_ := Aside0.mk (below_step (by repeat (first | (with_reducible first | exact HB.out | apply below_alloc | apply pw_below_drewN | apply below_drew1) | exact HB.out)) hb); clear HB; have HO112 := n0_; have HB := n1_; clear n0_ n1_; clear hb ho5))
      go_loopg [4] k (fun kq v4 w' => ∃ (x3_1 : List Int) (x4_1 : Int), v4 = .int .i64 x4_1 ∧ Aside0 (laws_toByteS.l0 kq l0 x3_1 x4_1 = some r) ∧ Aside0 (kq ≤ k) ∧ Aside0 (Kd.R (Kd.int .u8) 5 w' w.heap.size (fun _ => True) v111 x3_1) ∧ Aside0 (Below w.heap.size w w'))
      case atStart => exact ⟨(y110), (0), (by first | rfl | (simp; done) | (simp [*]; done)), H', ⟨Nat.le_refl _⟩, ⟨by (with_reducible repeat (first | apply Kd.R_alloc | apply Kd.R_drewN | apply Kd.R_drew)); exact HO112.out⟩, ⟨by repeat (first | (with_reducible first | exact HB.out | apply below_alloc | apply pw_below_drewN | apply below_drew1) | exact HB.out)⟩⟩
      case round =>
        clear H'
        try clear c2
        try clear c2b0
        try clear c2b1
        try clear p2
        try clear c3
        try clear c3b0
        try clear c3b1
        obtain ⟨x3_1, x4_1, rfl, HA, HK1, HO_3, HB⟩ := hrel
        cases gk with
        | zero => exact absurd HA.out (by simp [laws_toByteS.l0])
        | succ k1 =>
          have H := HA.out
          clear HA
          simp only [laws_toByteS.l0] at H
          by_cases c6 : x4_1 < (l0.length : Int)
          · rw [if_pos c6] at H
            have c6b0 : decide (x4_1 < (l0.length : Int)) = true := decide_eq_true c6
            clear c6
            by_cases c7 : 0 ≤ x4_1
            · rw [if_pos c7] at H
              have c7b0 : decide (0 ≤ x4_1) = true := decide_eq_true c7
              clear c7
              by_cases c8 : x4_1 < (x3_1.length : Int)
              · rw [if_pos c8] at H
                have c8b0 : decide (x4_1 < (x3_1.length : Int)) = true := decide_eq_true c8
                clear c8
                obtain ⟨y114, hy114⟩ : ∃ y_ : List Int, y_ = (x3_1.set (x4_1 : Int).toNat (rd l0 x4_1)) := ⟨_, rfl⟩
                replace H : (laws_toByteS.l0 k1 l0 y114 (wrap64 (x4_1 + 1))) = some r := by first | (rw [hy114]; with_reducible exact H) | (have H2_ := (Option.bind_some _ _).symm.trans H; rw [hy114]; with_reducible exact H2_) | (have H2_ := (Option.bind_some _ _).symm.trans H; with_reducible exact H2_) | with_reducible exact H | (rw [hy114]; exact H) | exact H
                have Ny114 := Aside0.mk hy114
                clear hy114
                have H' := Aside0.mk H
                clear H
                have p113 : 0 ≤ (x4_1 : Int) := of_decide_eq_true (by first | (with_reducible assumption) | assumption)
                have q113 : x4_1 < (l0.length : Int) := of_decide_eq_true (by first | (with_reducible assumption) | assumption)
                obtain ⟨ad113, e113, hx113_0⟩ := Kd.at_int HR0.out x4_1 p113 q113
                cases e113
                replace hx113_0 := (HB.out.cell (World.block_lt_of_cell? w _ hx113_0)).trans hx113_0
                replace p113 := eq_true p113
                replace q113 := eq_true q113
                have p9 : 0 ≤ (x4_1 : Int) := of_decide_eq_true (by first | (with_reducible assumption) | assumption)
                have q9 : (x4_1 : Int) < ((x3_1.length : Int) : Int) := of_decide_eq_true (by first | (with_reducible assumption) | assumption)
                obtain ⟨go9, co9, eo9, gb9, gl9, cl9, HG9⟩ := Kd.R_form HO_3.out (by omega)
                (first | cases eo9 | (injection eo9 with ea_ en_ ec_; (first | subst ea_ | (injection ea_ with ea_; subst ea_)); subst ec_; clear en_))
                have GB9 := Aside0.mk gb9
                have GG9 := Aside0.mk HG9
                clear gb9 gl9 HG9
                obtain ⟨hx9_0, hf9_0⟩ := Kd.R_celln 0 HO_3.out (x4_1 : Int) p9 q9
                replace p9 := eq_true p9
                replace q9 := eq_true q9
                have HP10 := Kd.R_putg HO_3.out (x4_1 : Int) (rd l0 x4_1)
                go_wp2_with (first | ((with_reducible refine gate_store (t := 5) (p := 20) rfl ?_); refine store_event (t := 5) (p := 20) (v := ?vo_w11) (w1 := (wr.setCell ⟨go9, (x4_1 : Int).toNat, none⟩ (.int .u8 (rd l0 x4_1)))) ?hg ?ho ?hn ?hr ?_; (case ho => rfl); (case hg => rfl); (case hn => rfl); (case hr => first | (go_simp; done) | (go_simp; rfl)); intro w11 hw; have hg : wr.grownBy w11 (some go9) := (by rw [hw]; exact HP10.2); have hp_ : Kd.R (Kd.int .u8) 5 w11 w.heap.size (fun _ => True) (.slice (some ⟨go9, 0, none⟩) x3_1.length co9) y114 := (by rw [hw, Ny114.out]; exact HP10.1); clear HP10; have n0_ := Aside0.mk (hp_); have n1_ := Aside0.mk ((by rw [hw]; exact below_set (HB.out) GB9.out : Below w.heap.size w w11)); clear HO_3; clear HB; have HO_3 := n0_; have HB := n1_; clear n0_ n1_; clear hg hw hp_))
                go_roundg k1
                case measure => have := HK1.out; omega
                case rel => exact ⟨(y114), (wrap64 (x4_1 + 1)), (by first | rfl | (simp; done) | (simp [*]; done)), H', ⟨by have := HK1.out; omega⟩, ⟨by (with_reducible repeat (first | apply Kd.R_alloc | apply Kd.R_drewN | apply Kd.R_drew)); exact HO_3.out⟩, ⟨by repeat (first | (with_reducible first | exact HB.out | apply below_alloc | apply pw_below_drewN | apply below_drew1) | exact HB.out)⟩⟩
              · rw [if_neg c8] at H
                exact absurd H (by simp)
            · rw [if_neg c7] at H
              exact absurd H (by simp)
          · rw [if_neg c6] at H
            have c6b0 : decide (x4_1 < (l0.length : Int)) = false := decide_eq_false c6
            clear c6
            obtain rfl := Option.some.inj H
            go_wp2
            go_ret
            exact ⟨_, by first | rfl | (simp [errW_none, errW_some] <;> rfl) | (simp [*, errW_none, errW_some] <;> rfl), by (with_reducible repeat (first | apply Kd.R_alloc | apply Kd.R_drewN | apply Kd.R_drew)); exact HO_3.out, by repeat (first | (with_reducible first | exact HB.out | apply below_alloc | apply pw_below_drewN | apply below_drew1) | exact HB.out)⟩
    · rw [if_neg c3] at H
      exact absurd H (by simp)
  · rw [if_neg c2] at H
    exact absurd H (by simp)

/-! ### impl_tooLong: function 71 -/
def impl_tooLong.f (l0 : List Int) : Option (Bool) := some (decide ((l0.length : Int) > 65536))
set_option maxHeartbeats 8000000 in
set_option maxRecDepth 100000 in
theorem impl_tooLong.calls (A0 : Option Addr) (c0 : Nat) (l0 : List Int) (r : Bool) (w : World) (hr0 : Kd.C (Kd.int .u8) w A0 l0.length l0) (hc0 : l0.length ≤ c0) (h : impl_tooLong.f l0 = some r) :
    Calls Try.prog 71 #[.slice A0 l0.length c0] w fun e w' => e = .returned (.bool r) ∧ Drawn0 w w' := by
  have HR0 := Aside0.mk hr0
  have HC0 := Aside0.mk hc0
  clear hr0 hc0
  have H : (some (decide ((l0.length : Int) > 65536))) = some r := h
  clear h
  obtain rfl := Option.some.inj H
  go_enter Try.func71, Try.ntmps71
  go_wp2
  go_ret
  exact ⟨by first | rfl | (simp; done) | (simp [*]; done), by repeat (first | exact Drawn0.refl _ | apply Drawn0.step)⟩

/-! ### impl_GetPrefix: function 36 -/
mutual
def impl_GetPrefix.j0 : Nat → List Int → Int → Int → Bool → Option (Int × Int × Int)
  | 0, _, _, _, _ => none
  | k + 1, x0, x1, x2, x30 => if x30 = true then (some (0, 0, 1)) else (if x1 = (x0.length : Int) then (some (0, 0, 2)) else (if 0 ≤ x2 then (if 0 ≤ x1 then (if x1 < (x0.length : Int) then (if (Go.bits .and .i64 (wrap64 (rd x0 x1)) (wrap64 ((shl .i64 1 x2) - 1))) < (wrap64 ((shl .i64 1 x2) - 1)) then (some (Go.bits .and .i64 (wrap64 (rd x0 x1)) (wrap64 ((shl .i64 1 x2) - 1)), wrap64 (x1 + 1), 0)) else (impl_GetPrefix.l0 k x0 (wrap64 (x1 + 1)) (Go.bits .and .i64 (wrap64 (rd x0 x1)) (wrap64 ((shl .i64 1 x2) - 1))) 0)) else (none)) else (none)) else (none)))
def impl_GetPrefix.l0 : Nat → List Int → Int → Int → Int → Option (Int × Int × Int)
  | 0, _, _, _, _ => none
  | k + 1, x0, x1, x10, x11 => if x11 < 10 then (if x1 = (x0.length : Int) then (some (0, 0, 2)) else (if 0 ≤ x1 then (if x1 < (x0.length : Int) then (if x11 = 9 then (if (wrap64 (Go.bits .and .u8 (rd x0 x1) 127)) = 0 then (if x11 < 9 then (if 0 ≤ (wrap64 (7 * x11)) then (impl_GetPrefix.j2 k x0 x1 x10 x11 (wrap64 (Go.bits .and .u8 (rd x0 x1) 127)) (decide ((wrap64 (Go.bits .and .u8 (rd x0 x1) 127)) > (shr .i64 (wrap64 (4611686018427387903 - x10)) (wrap64 (7 * x11)))))) else (none)) else (impl_GetPrefix.j2 k x0 x1 x10 x11 (wrap64 (Go.bits .and .u8 (rd x0 x1) 127)) false)) else (impl_GetPrefix.j2 k x0 x1 x10 x11 (wrap64 (Go.bits .and .u8 (rd x0 x1) 127)) true)) else (if x11 < 9 then (if 0 ≤ (wrap64 (7 * x11)) then (impl_GetPrefix.j2 k x0 x1 x10 x11 (wrap64 (Go.bits .and .u8 (rd x0 x1) 127)) (decide ((wrap64 (Go.bits .and .u8 (rd x0 x1) 127)) > (shr .i64 (wrap64 (4611686018427387903 - x10)) (wrap64 (7 * x11)))))) else (none)) else (impl_GetPrefix.j2 k x0 x1 x10 x11 (wrap64 (Go.bits .and .u8 (rd x0 x1) 127)) false))) else (none)) else (none))) else (some (0, 0, 3))
def impl_GetPrefix.j2 : Nat → List Int → Int → Int → Int → Int → Bool → Option (Int × Int × Int)
  | 0, _, _, _, _, _, _ => none
  | k + 1, x0, x1, x10, x11, x12, x84 => if x84 = true then (some (0, 0, 3)) else (if x11 < 9 then (if 0 ≤ (wrap64 (7 * x11)) then (if 0 ≤ (wrap64 ((wrap64 (x1 + 1)) - 1)) then (if (wrap64 ((wrap64 (x1 + 1)) - 1)) < (x0.length : Int) then (if (rd x0 (wrap64 ((wrap64 (x1 + 1)) - 1))) < 128 then (some (wrap64 (x10 + (shl .i64 x12 (wrap64 (7 * x11)))), wrap64 (x1 + 1), 0)) else (impl_GetPrefix.l0 k x0 (wrap64 (x1 + 1)) (wrap64 (x10 + (shl .i64 x12 (wrap64 (7 * x11))))) (wrap64 (x11 + 1)))) else (none)) else (none)) else (none)) else (if 0 ≤ (wrap64 ((wrap64 (x1 + 1)) - 1)) then (if (wrap64 ((wrap64 (x1 + 1)) - 1)) < (x0.length : Int) then (if (rd x0 (wrap64 ((wrap64 (x1 + 1)) - 1))) < 128 then (some (x10, wrap64 (x1 + 1), 0)) else (impl_GetPrefix.l0 k x0 (wrap64 (x1 + 1)) x10 (wrap64 (x11 + 1)))) else (none)) else (none)))
end
def impl_GetPrefix.f (k : Nat) (l0 : List Int) (a1 : Int) (a2 : Int) : Option (Int × Int × Int) := (impl_tooLong.f l0).bind fun t115 => (if t115 = true then (some (0, 0, 4)) else (if a2 < 1 then (impl_GetPrefix.j0 k l0 a1 a2 true) else (if a2 > 8 then (impl_GetPrefix.j0 k l0 a1 a2 true) else (if a1 < 0 then (impl_GetPrefix.j0 k l0 a1 a2 true) else (impl_GetPrefix.j0 k l0 a1 a2 (decide (a1 > (l0.length : Int))))))))
theorem impl_GetPrefix.mono_l : ∀ k, (∀ y0 y1 y2 y3, LeO (impl_GetPrefix.j0 k y0 y1 y2 y3) (impl_GetPrefix.j0 (k + 1) y0 y1 y2 y3)) ∧ (∀ y0 y1 y2 y3, LeO (impl_GetPrefix.l0 k y0 y1 y2 y3) (impl_GetPrefix.l0 (k + 1) y0 y1 y2 y3)) ∧ (∀ y0 y1 y2 y3 y4 y5, LeO (impl_GetPrefix.j2 k y0 y1 y2 y3 y4 y5) (impl_GetPrefix.j2 (k + 1) y0 y1 y2 y3 y4 y5))
  | 0 => ⟨fun _ _ _ _ r h => by simp [impl_GetPrefix.j0] at h, fun _ _ _ _ r h => by simp [impl_GetPrefix.l0] at h, fun _ _ _ _ _ _ r h => by simp [impl_GetPrefix.j2] at h⟩
  | k + 1 => by
    obtain ⟨ih0, ih1, ih2⟩ := impl_GetPrefix.mono_l k
    refine ⟨?_, ?_, ?_⟩
    · intro y0 y1 y2 y3
      unfold impl_GetPrefix.j0
      repeat' first
      | (with_reducible exact ih0 _ _ _ _)
      | (with_reducible exact ih1 _ _ _ _)
      | (with_reducible exact ih2 _ _ _ _ _ _)
      | (with_reducible exact LeO.refl _)
      | (with_reducible exact LeO.none _)
      | (with_reducible refine LeO.ite ?_ ?_)
      | (with_reducible refine LeO.bind ?_ (fun _ => ?_))
      | exact ih0 _ _ _ _
      | exact ih1 _ _ _ _
      | exact ih2 _ _ _ _ _ _
      | exact LeO.none _
      | refine LeO.ite ?_ ?_
      | refine LeO.bind ?_ (fun _ => ?_)
    · intro y0 y1 y2 y3
      unfold impl_GetPrefix.l0
      repeat' first
      | (with_reducible exact ih0 _ _ _ _)
      | (with_reducible exact ih1 _ _ _ _)
      | (with_reducible exact ih2 _ _ _ _ _ _)
      | (with_reducible exact LeO.refl _)
      | (with_reducible exact LeO.none _)
      | (with_reducible refine LeO.ite ?_ ?_)
      | (with_reducible refine LeO.bind ?_ (fun _ => ?_))
      | exact ih0 _ _ _ _
      | exact ih1 _ _ _ _
      | exact ih2 _ _ _ _ _ _
      | exact LeO.none _
      | refine LeO.ite ?_ ?_
      | refine LeO.bind ?_ (fun _ => ?_)
    · intro y0 y1 y2 y3 y4 y5
      unfold impl_GetPrefix.j2
      repeat' first
      | (with_reducible exact ih0 _ _ _ _)
      | (with_reducible exact ih1 _ _ _ _)
      | (with_reducible exact ih2 _ _ _ _ _ _)
      | (with_reducible exact LeO.refl _)
      | (with_reducible exact LeO.none _)
      | (with_reducible refine LeO.ite ?_ ?_)
      | (with_reducible refine LeO.bind ?_ (fun _ => ?_))
      | exact ih0 _ _ _ _
      | exact ih1 _ _ _ _
      | exact ih2 _ _ _ _ _ _
      | exact LeO.none _
      | refine LeO.ite ?_ ?_
      | refine LeO.bind ?_ (fun _ => ?_)
theorem impl_GetPrefix.mono : ∀ a0 a1 a2 k, LeO (impl_GetPrefix.f k a0 a1 a2) (impl_GetPrefix.f (k + 1) a0 a1 a2) := by
  intro a0 a1 a2 k
  obtain ⟨ih0, ih1, ih2⟩ := impl_GetPrefix.mono_l k
  unfold impl_GetPrefix.f
  repeat' first
      | (with_reducible exact ih0 _ _ _ _)
      | (with_reducible exact ih1 _ _ _ _)
      | (with_reducible exact ih2 _ _ _ _ _ _)
      | (with_reducible exact LeO.refl _)
      | (with_reducible exact LeO.none _)
      | (with_reducible refine LeO.ite ?_ ?_)
      | (with_reducible refine LeO.bind ?_ (fun _ => ?_))
      | exact ih0 _ _ _ _
      | exact ih1 _ _ _ _
      | exact ih2 _ _ _ _ _ _
      | exact LeO.none _
      | refine LeO.ite ?_ ?_
      | refine LeO.bind ?_ (fun _ => ?_)
set_option maxHeartbeats 8000000 in
set_option maxRecDepth 100000 in
theorem impl_GetPrefix.calls (k : Nat) (A0 : Option Addr) (c0 : Nat) (l0 : List Int) (a1 : Int) (a2 : Int) (r1 : Int) (r2 : Int) (r3 : Int) (w : World) (hr0 : Kd.C (Kd.int .u8) w A0 l0.length l0) (hc0 : l0.length ≤ c0) (h : impl_GetPrefix.f k l0 a1 a2 = some (r1, r2, r3)) :
    Calls Try.prog 36 #[.slice A0 l0.length c0, .int .i64 a1, .int .i64 a2] w fun e w' => e = .returned (.tuple #[.int .i64 r1, .int .i64 r2, .int .i64 r3]) ∧ Drawn0 w w' := by
  have HR0 := Aside0.mk hr0
  have HC0 := Aside0.mk hc0
  clear hr0 hc0
  have H : ((impl_tooLong.f l0).bind fun t115 => (if t115 = true then (some (0, 0, 4)) else (if a2 < 1 then (impl_GetPrefix.j0 k l0 a1 a2 true) else (if a2 > 8 then (impl_GetPrefix.j0 k l0 a1 a2 true) else (if a1 < 0 then (impl_GetPrefix.j0 k l0 a1 a2 true) else (impl_GetPrefix.j0 k l0 a1 a2 (decide (a1 > (l0.length : Int))))))))) = some (r1, r2, r3) := h
  clear h
  replace H := Option.bind_eq_some_iff.mp H
  obtain ⟨t115, A40, H⟩ := H
  replace H : (if t115 = true then (some (0, 0, 4)) else (if a2 < 1 then (impl_GetPrefix.j0 k l0 a1 a2 true) else (if a2 > 8 then (impl_GetPrefix.j0 k l0 a1 a2 true) else (if a1 < 0 then (impl_GetPrefix.j0 k l0 a1 a2 true) else (impl_GetPrefix.j0 k l0 a1 a2 (decide (a1 > (l0.length : Int)))))))) = some (r1, r2, r3) := H
  have A4 := Aside0.mk A40
  clear A40
  by_cases c5 : t115 = true
  · subst c5
    have H1 : (some (0, 0, 4)) = some (r1, r2, r3) := by rw [if_pos rfl] at H; exact H
    clear H
    have H := H1
    clear H1
    simp only [Option.some.injEq, Prod.mk.injEq] at H
    obtain ⟨rfl, rfl, rfl⟩ := H
    go_enter Try.func36, Try.ntmps36
    go_wp2_with (first | ((with_reducible refine gate_callee (f := 71) rfl ?_); refine goesL_ (some 14) rfl rfl Try.func71 (by kernel_rfl) rfl #[.slice A0 l0.length c0] rfl (by (try simp only [List.map_toArray, List.map_cons, List.map_nil]); first | done | rfl | (simp only [List.length_drop, List.length_take]; rfl)) ?_; (with_reducible refine (impl_tooLong.calls _ _ l0 true _ ?side1 ?side2 A4.out).mono ?_); (case side1 => repeat (first | exact HR0.out | (with_reducible refine Kd.C_alloc ?_ _) | (with_reducible refine Kd.C_drewN ?_ _) | (with_reducible refine Kd.C_drew ?_))); (case side2 => exact HC0.out); rintro e w' ⟨rfl, ⟨nd, rfl⟩⟩; refine ⟨_, rfl, ?_⟩))
    go_ret3
    exact ⟨by first | rfl | (simp; done) | (simp [*]; done), by repeat (first | exact Drawn0.refl _ | apply Drawn0.step)⟩
  · replace c5 := Bool.eq_false_iff.mpr c5
    subst c5
    have H1 : (if a2 < 1 then (impl_GetPrefix.j0 k l0 a1 a2 true) else (if a2 > 8 then (impl_GetPrefix.j0 k l0 a1 a2 true) else (if a1 < 0 then (impl_GetPrefix.j0 k l0 a1 a2 true) else (impl_GetPrefix.j0 k l0 a1 a2 (decide (a1 > (l0.length : Int))))))) = some (r1, r2, r3) := by rw [if_neg (show ¬ (false = true) by decide)] at H; exact H
    clear H
    have H := H1
    clear H1
    have HC6 := Aside0.mk H
    clear H
    go_enter Try.func36, Try.ntmps36
    go_upto_region 3 with (first | ((with_reducible refine gate_callee (f := 71) rfl ?_); refine goesL_ (some 14) rfl rfl Try.func71 (by kernel_rfl) rfl #[.slice A0 l0.length c0] rfl (by (try simp only [List.map_toArray, List.map_cons, List.map_nil]); first | done | rfl | (simp only [List.length_drop, List.length_take]; rfl)) ?_; (with_reducible refine (impl_tooLong.calls _ _ l0 false _ ?side1 ?side2 A4.out).mono ?_); (case side1 => repeat (first | exact HR0.out | (with_reducible refine Kd.C_alloc ?_ _) | (with_reducible refine Kd.C_drewN ?_ _) | (with_reducible refine Kd.C_drew ?_))); (case side2 => exact HC0.out); rintro e w' ⟨rfl, ⟨nd, rfl⟩⟩; refine ⟨_, rfl, ?_⟩))
    (try simp only [Act.put, List.setIfInBounds_toArray, List.set_cons_zero, List.set_cons_succ])
    go_cut [30] (fun v30 wc => ∃ (kq : Nat) (x30_5 : Bool), v30 = .bool x30_5 ∧ Aside0 (impl_GetPrefix.j0 kq l0 a1 a2 x30_5 = some (r1, r2, r3)) ∧ Aside0 (kq ≤ k) ∧ Drawn0 w wc)
    case first =>
      have H := HC6.out
      clear HC6
      by_cases c7 : a2 < 1
      · rw [if_pos c7] at H
        have c7b0 : decide (a2 < 1) = true := decide_eq_true c7
        clear c7
        (first | rw [c7b0] | (simp only [i64_w, i32_w]; rw [c7b0]) | skip)
        have H' := Aside0.mk H
        clear H
        go_wp2
        go_meet
        case rel => exact ⟨_, (true), (by first | rfl | (simp; done) | (simp [*]; done)), H', ⟨by first | omega | exact Nat.le_refl _⟩, by repeat (first | exact Drawn0.refl _ | apply Drawn0.step)⟩
      · rw [if_neg c7] at H
        have c7b0 : decide (a2 < 1) = false := decide_eq_false c7
        clear c7
        (first | rw [c7b0] | (simp only [i64_w, i32_w]; rw [c7b0]) | skip)
        by_cases c8 : a2 > 8
        · rw [if_pos c8] at H
          have c8b0 : decide (8 < a2) = true := decide_eq_true c8
          clear c8
          have H' := Aside0.mk H
          clear H
          go_wp2
          go_meet
          case rel => exact ⟨_, (true), (by first | rfl | (simp; done) | (simp [*]; done)), H', ⟨by first | omega | exact Nat.le_refl _⟩, by repeat (first | exact Drawn0.refl _ | apply Drawn0.step)⟩
        · rw [if_neg c8] at H
          have c8b0 : decide (8 < a2) = false := decide_eq_false c8
          clear c8
          by_cases c9 : a1 < 0
          · rw [if_pos c9] at H
            have c9b0 : decide (a1 < 0) = true := decide_eq_true c9
            clear c9
            have H' := Aside0.mk H
            clear H
            go_wp2
            go_meet
            case rel => exact ⟨_, (true), (by first | rfl | (simp; done) | (simp [*]; done)), H', ⟨by first | omega | exact Nat.le_refl _⟩, by repeat (first | exact Drawn0.refl _ | apply Drawn0.step)⟩
          · rw [if_neg c9] at H
            have c9b0 : decide (a1 < 0) = false := decide_eq_false c9
            clear c9
            have H' := Aside0.mk H
            clear H
            go_wp2
            go_meet
            case rel => exact ⟨_, (decide (a1 > (l0.length : Int))), (by first | rfl | (simp; done) | (simp [*]; done)), H', ⟨by first | omega | exact Nat.le_refl _⟩, by repeat (first | exact Drawn0.refl _ | apply Drawn0.step)⟩
    case rest =>
      clear HC6
      try clear p2
      try clear c3
      try clear c5
      try clear c7
      try clear c7b0
      try clear c8
      try clear c8b0
      try clear c9
      try clear c9b0
      obtain ⟨kq, x30_5, rfl, HA, HJ5, ⟨mc5, rfl⟩⟩ := hcut
      cases kq with
      | zero => exact absurd HA.out (by simp [impl_GetPrefix.j0])
      | succ kj5 =>
        have H := HA.out
        clear HA
        simp only [impl_GetPrefix.j0] at H
        by_cases c10 : x30_5 = true
        · subst c10
          have H1 : (some (0, 0, 1)) = some (r1, r2, r3) := by rw [if_pos rfl] at H; exact H
          clear H
          have H := H1
          clear H1
          simp only [Option.some.injEq, Prod.mk.injEq] at H
          obtain ⟨rfl, rfl, rfl⟩ := H
          go_wp2
          go_ret3
          exact ⟨by first | rfl | (simp; done) | (simp [*]; done), by repeat (first | exact Drawn0.refl _ | apply Drawn0.step)⟩
        · replace c10 := Bool.eq_false_iff.mpr c10
          subst c10
          have H1 : (if a1 = (l0.length : Int) then (some (0, 0, 2)) else (if 0 ≤ a2 then (if 0 ≤ a1 then (if a1 < (l0.length : Int) then (if (Go.bits .and .i64 (wrap64 (rd l0 a1)) (wrap64 ((shl .i64 1 a2) - 1))) < (wrap64 ((shl .i64 1 a2) - 1)) then (some (Go.bits .and .i64 (wrap64 (rd l0 a1)) (wrap64 ((shl .i64 1 a2) - 1)), wrap64 (a1 + 1), 0)) else (impl_GetPrefix.l0 kj5 l0 (wrap64 (a1 + 1)) (Go.bits .and .i64 (wrap64 (rd l0 a1)) (wrap64 ((shl .i64 1 a2) - 1))) 0)) else (none)) else (none)) else (none))) = some (r1, r2, r3) := by rw [if_neg (show ¬ (false = true) by decide)] at H; exact H
          clear H
          have H := H1
          clear H1
          by_cases c11 : a1 = (l0.length : Int)
          · rw [if_pos c11] at H
            have c11b0 : (a1 == (l0.length : Int)) = true := beq_iff_eq.mpr c11
            have c11b1 : (a1 != (l0.length : Int)) = false := bne_eq_false_iff_eq.mpr c11
            clear c11
            simp only [Option.some.injEq, Prod.mk.injEq] at H
            obtain ⟨rfl, rfl, rfl⟩ := H
            go_wp2
            go_ret3
            exact ⟨by first | rfl | (simp; done) | (simp [*]; done), by repeat (first | exact Drawn0.refl _ | apply Drawn0.step)⟩
          · rw [if_neg c11] at H
            have c11b0 : (a1 == (l0.length : Int)) = false := beq_eq_false_iff_ne.mpr c11
            have c11b1 : (a1 != (l0.length : Int)) = true := bne_iff_ne.mpr c11
            by_cases c12 : 0 ≤ a2
            · rw [if_pos c12] at H
              have c12b0 := eq_true c12
              have c12b1 : decide (0 ≤ a2) = true := decide_eq_true c12
              clear c12
              obtain ⟨ji13, hji13⟩ : ∃ j_ : Int, (shl .i64 1 a2) = j_ := ⟨_, rfl⟩
              replace H : (if 0 ≤ a1 then (if a1 < (l0.length : Int) then (if (Go.bits .and .i64 (wrap64 (rd l0 a1)) (wrap64 ((ji13) - 1))) < (wrap64 ((ji13) - 1)) then (some (Go.bits .and .i64 (wrap64 (rd l0 a1)) (wrap64 ((ji13) - 1)), wrap64 (a1 + 1), 0)) else (impl_GetPrefix.l0 kj5 l0 (wrap64 (a1 + 1)) (Go.bits .and .i64 (wrap64 (rd l0 a1)) (wrap64 ((ji13) - 1))) 0)) else (none)) else (none)) = some (r1, r2, r3) := by first | (rw [hji13] at H; exact H) | (simp only [hji13] at H ⊢; exact H)
              have hji13_ : (IntKind.i64.wrap (1 * 2 ^ min a2.toNat 64)) = ji13 := hji13
              have hji13z : a2 ≤ 64 → (IntKind.i64.wrap (1 * 2 ^ a2.toNat)) = ji13 := shl_small hji13
              have hji13u : (IntKind.i64.wrap (2 ^ min a2.toNat 64)) = ji13 := by have h_ := hji13_; rw [Int.one_mul] at h_; exact h_
              have hji13v : a2 ≤ 64 → (IntKind.i64.wrap (2 ^ a2.toNat)) = ji13 := fun hle_ => by have h_ := hji13z hle_; rw [Int.one_mul] at h_; exact h_
              have hji13y : (wrap64 (1 * 2 ^ min a2.toNat 64)) = ji13 := (i64_w _).symm.trans hji13_
              have hji13x : a2 ≤ 64 → (wrap64 (1 * 2 ^ a2.toNat)) = ji13 := fun h_ => (i64_w _).symm.trans (hji13z h_)
              by_cases c14 : 0 ≤ a1
              · rw [if_pos c14] at H
                have c14b0 : decide (0 ≤ a1) = true := decide_eq_true c14
                clear c14
                by_cases c15 : a1 < (l0.length : Int)
                · rw [if_pos c15] at H
                  have c15b0 : decide (a1 < (l0.length : Int)) = true := decide_eq_true c15
                  clear c15
                  by_cases c16 : (Go.bits .and .i64 (wrap64 (rd l0 a1)) (wrap64 ((ji13) - 1))) < (wrap64 ((ji13) - 1))
                  · rw [if_pos c16] at H
                    have c16b0 : decide ((Go.bits .and .i64 (wrap64 (rd l0 a1)) (wrap64 ((ji13) - 1))) < (wrap64 ((ji13) - 1))) = true := decide_eq_true c16
                    clear c16
                    simp only [Option.some.injEq, Prod.mk.injEq] at H
                    obtain ⟨rfl, rfl, rfl⟩ := H
                    have p116 : 0 ≤ (a1 : Int) := of_decide_eq_true (by first | (with_reducible assumption) | assumption)
                    have q116 : a1 < (l0.length : Int) := of_decide_eq_true (by first | (with_reducible assumption) | assumption)
                    obtain ⟨ad116, e116, hx116_0⟩ := Kd.at_int HR0.out a1 p116 q116
                    cases e116
                    replace p116 := eq_true p116
                    replace q116 := eq_true q116
                    go_wp2
                    go_ret3
                    exact ⟨by first | rfl | (simp; done) | (simp only [← hji13] <;> (first | rfl | simp)) | (simp [*]; done), by repeat (first | exact Drawn0.refl _ | apply Drawn0.step)⟩
                  · rw [if_neg c16] at H
                    have c16b0 : decide ((Go.bits .and .i64 (wrap64 (rd l0 a1)) (wrap64 ((ji13) - 1))) < (wrap64 ((ji13) - 1))) = false := decide_eq_false c16
                    clear c16
                    have H' := Aside0.mk H
                    clear H
                    have p116 : 0 ≤ (a1 : Int) := of_decide_eq_true (by first | (with_reducible assumption) | assumption)
                    have q116 : a1 < (l0.length : Int) := of_decide_eq_true (by first | (with_reducible assumption) | assumption)
                    obtain ⟨ad116, e116, hx116_0⟩ := Kd.at_int HR0.out a1 p116 q116
                    cases e116
                    replace p116 := eq_true p116
                    replace q116 := eq_true q116
                    go_wp2
                    go_loopg [1, 10, 11] kj5 (fun kq v1 v10 v11 w' => ∃ (x1_2 : Int) (x10_2 : Int) (x11_2 : Int), v1 = .int .i64 x1_2 ∧ v10 = .int .i64 x10_2 ∧ v11 = .int .i64 x11_2 ∧ Aside0 (impl_GetPrefix.l0 kq l0 x1_2 x10_2 x11_2 = some (r1, r2, r3)) ∧ Aside0 (kq ≤ kj5) ∧ Drawn0 w w')
                    case atStart => exact ⟨(wrap64 (a1 + 1)), (Go.bits .and .i64 (wrap64 (rd l0 a1)) (wrap64 ((ji13) - 1))), (0), (by first | rfl | (simp; done) | (simp [*]; done)), (by first | rfl | (simp; done) | (simp only [← hji13] <;> (first | rfl | simp)) | (simp [*]; done)), (by first | rfl | (simp; done) | (simp [*]; done)), H', ⟨Nat.le_refl _⟩, by repeat (first | exact Drawn0.refl _ | apply Drawn0.step)⟩
                    case round =>
                      clear H'
                      try clear c1
                      try clear p1
                      try clear q1
                      try clear hx1
                      try clear p2
                      try clear c3
                      try clear c5
                      try clear p6
                      try clear c7
                      try clear c7b0
                      try clear c8
                      try clear c8b0
                      try clear c9
                      try clear c9b0
                      try clear c10
                      try clear c11
                      try clear c11b0
                      try clear c11b1
                      try clear p11
                      try clear q11
                      try clear hx11
                      try clear c12
                      try clear c12b0
                      try clear c12b1
                      try clear c14
                      try clear c14b0
                      try clear c15
                      try clear c15b0
                      try clear c16
                      try clear c16b0
                      try clear hx116_0
                      try clear p116
                      try clear p2
                      try clear q116
                      obtain ⟨x1_2, x10_2, x11_2, rfl, rfl, rfl, HA, HK2, ⟨m2, rfl⟩⟩ := hrel
                      cases gk with
                      | zero => exact absurd HA.out (by simp [impl_GetPrefix.l0])
                      | succ k2 =>
                        have H := HA.out
                        clear HA
                        simp only [impl_GetPrefix.l0] at H
                        by_cases c17 : x11_2 < 10
                        · rw [if_pos c17] at H
                          have c17b0 : decide (x11_2 < 10) = true := decide_eq_true c17
                          clear c17
                          by_cases c18 : x1_2 = (l0.length : Int)
                          · rw [if_pos c18] at H
                            have c18b0 : (x1_2 == (l0.length : Int)) = true := beq_iff_eq.mpr c18
                            have c18b1 : (x1_2 != (l0.length : Int)) = false := bne_eq_false_iff_eq.mpr c18
                            clear c18
                            simp only [Option.some.injEq, Prod.mk.injEq] at H
                            obtain ⟨rfl, rfl, rfl⟩ := H
                            go_wp2
                            go_ret3
                            exact ⟨by first | rfl | (simp; done) | (simp only [← hji13] <;> (first | rfl | simp)) | (simp [*]; done), by repeat (first | exact Drawn0.refl _ | apply Drawn0.step)⟩
                          · rw [if_neg c18] at H
                            have c18b0 : (x1_2 == (l0.length : Int)) = false := beq_eq_false_iff_ne.mpr c18
                            have c18b1 : (x1_2 != (l0.length : Int)) = true := bne_iff_ne.mpr c18
                            by_cases c19 : 0 ≤ x1_2
                            · rw [if_pos c19] at H
                              have c19b0 : decide (0 ≤ x1_2) = true := decide_eq_true c19
                              clear c19
                              by_cases c20 : x1_2 < (l0.length : Int)
                              · rw [if_pos c20] at H
                                have c20b0 : decide (x1_2 < (l0.length : Int)) = true := decide_eq_true c20
                                clear c20
                                have HC21 := Aside0.mk H
                                clear H
                                have p117 : 0 ≤ (x1_2 : Int) := of_decide_eq_true (by first | (with_reducible assumption) | assumption)
                                have q117 : x1_2 < (l0.length : Int) := of_decide_eq_true (by first | (with_reducible assumption) | assumption)
                                obtain ⟨ad117, e117, hx117_0⟩ := Kd.at_int HR0.out x1_2 p117 q117
                                obtain rfl : ad116 = ad117 := (by injection e117)
                                replace p117 := eq_true p117
                                replace q117 := eq_true q117
                                go_upto_region 18 with (fail)
                                go_cut [84] (fun v84 wc => ∃ (kq : Nat) (x84_20 : Bool), v84 = .bool x84_20 ∧ Aside0 (impl_GetPrefix.j2 kq l0 x1_2 x10_2 x11_2 (wrap64 (Go.bits .and .u8 (rd l0 x1_2) 127)) x84_20 = some (r1, r2, r3)) ∧ Aside0 (kq ≤ k2) ∧ Drawn0 w wc)
                                case first =>
                                  have H := HC21.out
                                  clear HC21
                                  by_cases c22 : x11_2 = 9
                                  · rw [if_pos c22] at H
                                    have c22b0 : (x11_2 == 9) = true := beq_iff_eq.mpr c22
                                    have c22b1 : (x11_2 != 9) = false := bne_eq_false_iff_eq.mpr c22
                                    clear c22
                                    (first | rw [c22b0] | (simp only [i64_w, i32_w]; rw [c22b0]) | skip)
                                    by_cases c23 : (wrap64 (Go.bits .and .u8 (rd l0 x1_2) 127)) = 0
                                    · rw [if_pos c23] at H
                                      have c23b0 : ((wrap64 (Go.bits .and .u8 (rd l0 x1_2) 127)) == 0) = true := beq_iff_eq.mpr c23
                                      have c23b1 : ((wrap64 (Go.bits .and .u8 (rd l0 x1_2) 127)) != 0) = false := bne_eq_false_iff_eq.mpr c23
                                      clear c23
                                      by_cases c24 : x11_2 < 9
                                      · rw [if_pos c24] at H
                                        have c24b0 : decide (x11_2 < 9) = true := decide_eq_true c24
                                        clear c24
                                        obtain ⟨ji25, hji25⟩ : ∃ j_ : Int, (wrap64 (7 * x11_2)) = j_ := ⟨_, rfl⟩
                                        replace H : (if 0 ≤ (ji25) then (impl_GetPrefix.j2 k2 l0 x1_2 x10_2 x11_2 (wrap64 (Go.bits .and .u8 (rd l0 x1_2) 127)) (decide ((wrap64 (Go.bits .and .u8 (rd l0 x1_2) 127)) > (shr .i64 (wrap64 (4611686018427387903 - x10_2)) (ji25))))) else (none)) = some (r1, r2, r3) := by first | (rw [hji25] at H; exact H) | (simp only [hji25] at H ⊢; exact H)
                                        have hji25w : (IntKind.i64.wrap (7 * x11_2)) = ji25 := (i64_w _).trans hji25
                                        by_cases c26 : 0 ≤ (ji25)
                                        · rw [if_pos c26] at H
                                          have c26b0 := eq_true c26
                                          have c26b1 : decide (0 ≤ (ji25)) = true := decide_eq_true c26
                                          clear c26
                                          obtain ⟨ji27, hji27⟩ : ∃ j_ : Int, (shr .i64 (wrap64 (4611686018427387903 - x10_2)) (ji25)) = j_ := ⟨_, rfl⟩
                                          replace H : (impl_GetPrefix.j2 k2 l0 x1_2 x10_2 x11_2 (wrap64 (Go.bits .and .u8 (rd l0 x1_2) 127)) (decide ((wrap64 (Go.bits .and .u8 (rd l0 x1_2) 127)) > (ji27)))) = some (r1, r2, r3) := by first | (rw [hji27] at H; exact H) | (simp only [hji27] at H ⊢; exact H)
                                          have hji27_ : ((wrap64 (4611686018427387903 - x10_2)) / 2 ^ min (ji25).toNat 64) = ji27 := hji27
                                          have hji27z : (ji25) ≤ 64 → ((wrap64 (4611686018427387903 - x10_2)) / 2 ^ (ji25).toNat) = ji27 := shr_small hji27
                                          have H' := Aside0.mk H
                                          clear H
                                          go_wp2
                                          go_meet
                                          case rel => exact ⟨_, (decide ((wrap64 (Go.bits .and .u8 (rd l0 x1_2) 127)) > (ji27))), (by first | rfl | (simp; done) | (simp only [← hji27] <;> (first | rfl | simp)) | (simp [*]; done)), H', ⟨by have := HJ5.out; have := HK2.out; first | omega | exact Nat.le_refl _⟩, by repeat (first | exact Drawn0.refl _ | apply Drawn0.step)⟩
                                        · rw [if_neg c26] at H
                                          exact absurd H (by simp)
                                      · rw [if_neg c24] at H
                                        have c24b0 : decide (x11_2 < 9) = false := decide_eq_false c24
                                        clear c24
                                        have H' := Aside0.mk H
                                        clear H
                                        go_wp2
                                        go_meet
                                        case rel => exact ⟨_, (false), (by first | rfl | (simp; done) | (simp [*]; done)), H', ⟨by have := HJ5.out; have := HK2.out; first | omega | exact Nat.le_refl _⟩, by repeat (first | exact Drawn0.refl _ | apply Drawn0.step)⟩
                                    · rw [if_neg c23] at H
                                      have c23b0 : ((wrap64 (Go.bits .and .u8 (rd l0 x1_2) 127)) == 0) = false := beq_eq_false_iff_ne.mpr c23
                                      have c23b1 : ((wrap64 (Go.bits .and .u8 (rd l0 x1_2) 127)) != 0) = true := bne_iff_ne.mpr c23
                                      have H' := Aside0.mk H
                                      clear H
                                      go_wp2
                                      go_meet
                                      case rel => exact ⟨_, (true), (by first | rfl | (simp; done) | (simp [*]; done)), H', ⟨by have := HJ5.out; have := HK2.out; first | omega | exact Nat.le_refl _⟩, by repeat (first | exact Drawn0.refl _ | apply Drawn0.step)⟩
                                  · rw [if_neg c22] at H
                                    have c22b0 : (x11_2 == 9) = false := beq_eq_false_iff_ne.mpr c22
                                    have c22b1 : (x11_2 != 9) = true := bne_iff_ne.mpr c22
                                    (first | rw [c22b0] | (simp only [i64_w, i32_w]; rw [c22b0]) | skip)
                                    by_cases c28 : x11_2 < 9
                                    · rw [if_pos c28] at H
                                      have c28b0 : decide (x11_2 < 9) = true := decide_eq_true c28
                                      clear c28
                                      obtain ⟨ji29, hji29⟩ : ∃ j_ : Int, (wrap64 (7 * x11_2)) = j_ := ⟨_, rfl⟩
                                      replace H : (if 0 ≤ (ji29) then (impl_GetPrefix.j2 k2 l0 x1_2 x10_2 x11_2 (wrap64 (Go.bits .and .u8 (rd l0 x1_2) 127)) (decide ((wrap64 (Go.bits .and .u8 (rd l0 x1_2) 127)) > (shr .i64 (wrap64 (4611686018427387903 - x10_2)) (ji29))))) else (none)) = some (r1, r2, r3) := by first | (rw [hji29] at H; exact H) | (simp only [hji29] at H ⊢; exact H)
                                      have hji29w : (IntKind.i64.wrap (7 * x11_2)) = ji29 := (i64_w _).trans hji29
                                      by_cases c30 : 0 ≤ (ji29)
                                      · rw [if_pos c30] at H
                                        have c30b0 := eq_true c30
                                        have c30b1 : decide (0 ≤ (ji29)) = true := decide_eq_true c30
                                        clear c30
                                        obtain ⟨ji31, hji31⟩ : ∃ j_ : Int, (shr .i64 (wrap64 (4611686018427387903 - x10_2)) (ji29)) = j_ := ⟨_, rfl⟩
                                        replace H : (impl_GetPrefix.j2 k2 l0 x1_2 x10_2 x11_2 (wrap64 (Go.bits .and .u8 (rd l0 x1_2) 127)) (decide ((wrap64 (Go.bits .and .u8 (rd l0 x1_2) 127)) > (ji31)))) = some (r1, r2, r3) := by first | (rw [hji31] at H; exact H) | (simp only [hji31] at H ⊢; exact H)
                                        have hji31_ : ((wrap64 (4611686018427387903 - x10_2)) / 2 ^ min (ji29).toNat 64) = ji31 := hji31
                                        have hji31z : (ji29) ≤ 64 → ((wrap64 (4611686018427387903 - x10_2)) / 2 ^ (ji29).toNat) = ji31 := shr_small hji31
                                        have H' := Aside0.mk H
                                        clear H
                                        go_wp2
                                        go_meet
                                        case rel => exact ⟨_, (decide ((wrap64 (Go.bits .and .u8 (rd l0 x1_2) 127)) > (ji31))), (by first | rfl | (simp; done) | (simp only [← hji31] <;> (first | rfl | simp)) | (simp [*]; done)), H', ⟨by have := HJ5.out; have := HK2.out; first | omega | exact Nat.le_refl _⟩, by repeat (first | exact Drawn0.refl _ | apply Drawn0.step)⟩
                                      · rw [if_neg c30] at H
                                        exact absurd H (by simp)
                                    · rw [if_neg c28] at H
                                      have c28b0 : decide (x11_2 < 9) = false := decide_eq_false c28
                                      clear c28
                                      have H' := Aside0.mk H
                                      clear H
                                      go_wp2
                                      go_meet
                                      case rel => exact ⟨_, (false), (by first | rfl | (simp; done) | (simp [*]; done)), H', ⟨by have := HJ5.out; have := HK2.out; first | omega | exact Nat.le_refl _⟩, by repeat (first | exact Drawn0.refl _ | apply Drawn0.step)⟩
                                case rest =>
                                  clear HC21
                                  try clear c1
                                  try clear p1
                                  try clear q1
                                  try clear hx1
                                  try clear c2
                                  try clear p2
                                  try clear c3
                                  try clear c5
                                  try clear p6
                                  try clear c7
                                  try clear c7b0
                                  try clear c8
                                  try clear c8b0
                                  try clear c9
                                  try clear c9b0
                                  try clear c10
                                  try clear c11
                                  try clear c11b0
                                  try clear c11b1
                                  try clear p11
                                  try clear q11
                                  try clear hx11
                                  try clear c12
                                  try clear c12b0
                                  try clear c12b1
                                  try clear c14
                                  try clear c14b0
                                  try clear c15
                                  try clear c15b0
                                  try clear c16
                                  try clear c16b0
                                  try clear c17
                                  try clear c17b0
                                  try clear c18
                                  try clear c18b0
                                  try clear c18b1
                                  try clear c19
                                  try clear c19b0
                                  try clear c20
                                  try clear c20b0
                                  try clear c22
                                  try clear c22b0
                                  try clear c22b1
                                  try clear c23
                                  try clear c23b0
                                  try clear c23b1
                                  try clear c24
                                  try clear c24b0
                                  try clear c26
                                  try clear c26b0
                                  try clear c26b1
                                  try clear c28
                                  try clear c28b0
                                  try clear c30
                                  try clear c30b0
                                  try clear c30b1
                                  try clear hx116_0
                                  try clear hx117_0
                                  try clear p1
                                  try clear p11
                                  try clear p116
                                  try clear p117
                                  try clear p2
                                  try clear p6
                                  try clear q1
                                  try clear q11
                                  try clear q116
                                  try clear q117
                                  obtain ⟨kq, x84_20, rfl, HA, HJ20, ⟨mc20, rfl⟩⟩ := hcut
                                  cases kq with
                                  | zero => exact absurd HA.out (by simp [impl_GetPrefix.j2])
                                  | succ kj20 =>
                                    have H := HA.out
                                    clear HA
                                    simp only [impl_GetPrefix.j2] at H
                                    by_cases c32 : x84_20 = true
                                    · subst c32
                                      have H1 : (some (0, 0, 3)) = some (r1, r2, r3) := by rw [if_pos rfl] at H; exact H
                                      clear H
                                      have H := H1
                                      clear H1
                                      simp only [Option.some.injEq, Prod.mk.injEq] at H
                                      obtain ⟨rfl, rfl, rfl⟩ := H
                                      go_wp2
                                      go_ret3
                                      exact ⟨by first | rfl | (simp; done) | (simp only [← hji13] <;> (first | rfl | simp)) | (simp [*]; done), by repeat (first | exact Drawn0.refl _ | apply Drawn0.step)⟩
                                    · replace c32 := Bool.eq_false_iff.mpr c32
                                      subst c32
                                      have H1 : (if x11_2 < 9 then (if 0 ≤ (wrap64 (7 * x11_2)) then (if 0 ≤ (wrap64 ((wrap64 (x1_2 + 1)) - 1)) then (if (wrap64 ((wrap64 (x1_2 + 1)) - 1)) < (l0.length : Int) then (if (rd l0 (wrap64 ((wrap64 (x1_2 + 1)) - 1))) < 128 then (some (wrap64 (x10_2 + (shl .i64 (wrap64 (Go.bits .and .u8 (rd l0 x1_2) 127)) (wrap64 (7 * x11_2)))), wrap64 (x1_2 + 1), 0)) else (impl_GetPrefix.l0 kj20 l0 (wrap64 (x1_2 + 1)) (wrap64 (x10_2 + (shl .i64 (wrap64 (Go.bits .and .u8 (rd l0 x1_2) 127)) (wrap64 (7 * x11_2))))) (wrap64 (x11_2 + 1)))) else (none)) else (none)) else (none)) else (if 0 ≤ (wrap64 ((wrap64 (x1_2 + 1)) - 1)) then (if (wrap64 ((wrap64 (x1_2 + 1)) - 1)) < (l0.length : Int) then (if (rd l0 (wrap64 ((wrap64 (x1_2 + 1)) - 1))) < 128 then (some (x10_2, wrap64 (x1_2 + 1), 0)) else (impl_GetPrefix.l0 kj20 l0 (wrap64 (x1_2 + 1)) x10_2 (wrap64 (x11_2 + 1)))) else (none)) else (none))) = some (r1, r2, r3) := by rw [if_neg (show ¬ (false = true) by decide)] at H; exact H
                                      clear H
                                      have H := H1
                                      clear H1
                                      by_cases c33 : x11_2 < 9
                                      · rw [if_pos c33] at H
                                        have c33b0 : decide (x11_2 < 9) = true := decide_eq_true c33
                                        clear c33
                                        obtain ⟨ji34, hji34⟩ : ∃ j_ : Int, (wrap64 (7 * x11_2)) = j_ := ⟨_, rfl⟩
                                        replace H : (if 0 ≤ (ji34) then (if 0 ≤ (wrap64 ((wrap64 (x1_2 + 1)) - 1)) then (if (wrap64 ((wrap64 (x1_2 + 1)) - 1)) < (l0.length : Int) then (if (rd l0 (wrap64 ((wrap64 (x1_2 + 1)) - 1))) < 128 then (some (wrap64 (x10_2 + (shl .i64 (wrap64 (Go.bits .and .u8 (rd l0 x1_2) 127)) (ji34))), wrap64 (x1_2 + 1), 0)) else (impl_GetPrefix.l0 kj20 l0 (wrap64 (x1_2 + 1)) (wrap64 (x10_2 + (shl .i64 (wrap64 (Go.bits .and .u8 (rd l0 x1_2) 127)) (ji34)))) (wrap64 (x11_2 + 1)))) else (none)) else (none)) else (none)) = some (r1, r2, r3) := by first | (rw [hji34] at H; exact H) | (simp only [hji34] at H ⊢; exact H)
                                        have hji34w : (IntKind.i64.wrap (7 * x11_2)) = ji34 := (i64_w _).trans hji34
                                        by_cases c35 : 0 ≤ (ji34)
                                        · rw [if_pos c35] at H
                                          have c35b0 := eq_true c35
                                          have c35b1 : decide (0 ≤ (ji34)) = true := decide_eq_true c35
                                          clear c35
                                          obtain ⟨ji36, hji36⟩ : ∃ j_ : Int, (shl .i64 (wrap64 (Go.bits .and .u8 (rd l0 x1_2) 127)) (ji34)) = j_ := ⟨_, rfl⟩
                                          replace H : (if 0 ≤ (wrap64 ((wrap64 (x1_2 + 1)) - 1)) then (if (wrap64 ((wrap64 (x1_2 + 1)) - 1)) < (l0.length : Int) then (if (rd l0 (wrap64 ((wrap64 (x1_2 + 1)) - 1))) < 128 then (some (wrap64 (x10_2 + (ji36)), wrap64 (x1_2 + 1), 0)) else (impl_GetPrefix.l0 kj20 l0 (wrap64 (x1_2 + 1)) (wrap64 (x10_2 + (ji36))) (wrap64 (x11_2 + 1)))) else (none)) else (none)) = some (r1, r2, r3) := by first | (rw [hji36] at H; exact H) | (simp only [hji36] at H ⊢; exact H)
                                          have hji36_ : (IntKind.i64.wrap ((wrap64 (Go.bits .and .u8 (rd l0 x1_2) 127)) * 2 ^ min (ji34).toNat 64)) = ji36 := hji36
                                          have hji36z : (ji34) ≤ 64 → (IntKind.i64.wrap ((wrap64 (Go.bits .and .u8 (rd l0 x1_2) 127)) * 2 ^ (ji34).toNat)) = ji36 := shl_small hji36
                                          have hji36y : (wrap64 ((wrap64 (Go.bits .and .u8 (rd l0 x1_2) 127)) * 2 ^ min (ji34).toNat 64)) = ji36 := (i64_w _).symm.trans hji36_
                                          have hji36x : (ji34) ≤ 64 → (wrap64 ((wrap64 (Go.bits .and .u8 (rd l0 x1_2) 127)) * 2 ^ (ji34).toNat)) = ji36 := fun h_ => (i64_w _).symm.trans (hji36z h_)
                                          obtain ⟨ji37, hji37⟩ : ∃ j_ : Int, (wrap64 ((wrap64 (x1_2 + 1)) - 1)) = j_ := ⟨_, rfl⟩
                                          replace H : (if 0 ≤ (ji37) then (if (ji37) < (l0.length : Int) then (if (rd l0 (ji37)) < 128 then (some (wrap64 (x10_2 + (ji36)), wrap64 (x1_2 + 1), 0)) else (impl_GetPrefix.l0 kj20 l0 (wrap64 (x1_2 + 1)) (wrap64 (x10_2 + (ji36))) (wrap64 (x11_2 + 1)))) else (none)) else (none)) = some (r1, r2, r3) := by first | (rw [hji37] at H; exact H) | (simp only [hji37] at H ⊢; exact H)
                                          have hji37w : (IntKind.i64.wrap ((wrap64 (x1_2 + 1)) - 1)) = ji37 := (i64_w _).trans hji37
                                          by_cases c38 : 0 ≤ (ji37)
                                          · rw [if_pos c38] at H
                                            have c38b0 : decide (0 ≤ (ji37)) = true := decide_eq_true c38
                                            clear c38
                                            by_cases c39 : (ji37) < (l0.length : Int)
                                            · rw [if_pos c39] at H
                                              have c39b0 : decide ((ji37) < (l0.length : Int)) = true := decide_eq_true c39
                                              clear c39
                                              by_cases c40 : (rd l0 (ji37)) < 128
                                              · rw [if_pos c40] at H
                                                have c40b0 : decide ((rd l0 (ji37)) < 128) = true := decide_eq_true c40
                                                clear c40
                                                simp only [Option.some.injEq, Prod.mk.injEq] at H
                                                obtain ⟨rfl, rfl, rfl⟩ := H
                                                have p118 : 0 ≤ ((ji37) : Int) := of_decide_eq_true (by first | (with_reducible assumption) | assumption)
                                                have q118 : (ji37) < (l0.length : Int) := of_decide_eq_true (by first | (with_reducible assumption) | assumption)
                                                obtain ⟨ad118, e118, hx118_0⟩ := Kd.at_int HR0.out (ji37) p118 q118
                                                obtain rfl : ad116 = ad118 := (by injection e118)
                                                replace p118 := eq_true p118
                                                replace q118 := eq_true q118
                                                go_wp2
                                                go_ret3
                                                exact ⟨by first | rfl | (simp; done) | (simp only [← hji13, ← hji34, ← hji36, ← hji37] <;> (first | rfl | simp)) | (simp [*]; done), by repeat (first | exact Drawn0.refl _ | apply Drawn0.step)⟩
                                              · rw [if_neg c40] at H
                                                have c40b0 : decide ((rd l0 (ji37)) < 128) = false := decide_eq_false c40
                                                clear c40
                                                have H' := Aside0.mk H
                                                clear H
                                                have p118 : 0 ≤ ((ji37) : Int) := of_decide_eq_true (by first | (with_reducible assumption) | assumption)
                                                have q118 : (ji37) < (l0.length : Int) := of_decide_eq_true (by first | (with_reducible assumption) | assumption)
                                                obtain ⟨ad118, e118, hx118_0⟩ := Kd.at_int HR0.out (ji37) p118 q118
                                                obtain rfl : ad116 = ad118 := (by injection e118)
                                                replace p118 := eq_true p118
                                                replace q118 := eq_true q118
                                                go_wp2
                                                go_roundg kj20
                                                case measure => have := HJ5.out; have := HK2.out; have := HJ20.out; omega
                                                case rel => exact ⟨(wrap64 (x1_2 + 1)), (wrap64 (x10_2 + (ji36))), (wrap64 (x11_2 + 1)), (by first | rfl | (simp; done) | (simp [*]; done)), (by first | rfl | (simp; done) | (simp only [← hji36] <;> (first | rfl | simp)) | (simp [*]; done)), (by first | rfl | (simp; done) | (simp [*]; done)), H', ⟨by have := HJ5.out; have := HK2.out; have := HJ20.out; omega⟩, by repeat (first | exact Drawn0.refl _ | apply Drawn0.step)⟩
                                            · rw [if_neg c39] at H
                                              exact absurd H (by simp)
                                          · rw [if_neg c38] at H
                                            exact absurd H (by simp)
                                        · rw [if_neg c35] at H
                                          exact absurd H (by simp)
                                      · rw [if_neg c33] at H
                                        have c33b0 : decide (x11_2 < 9) = false := decide_eq_false c33
                                        clear c33
                                        obtain ⟨ji41, hji41⟩ : ∃ j_ : Int, (wrap64 ((wrap64 (x1_2 + 1)) - 1)) = j_ := ⟨_, rfl⟩
                                        replace H : (if 0 ≤ (ji41) then (if (ji41) < (l0.length : Int) then (if (rd l0 (ji41)) < 128 then (some (x10_2, wrap64 (x1_2 + 1), 0)) else (impl_GetPrefix.l0 kj20 l0 (wrap64 (x1_2 + 1)) x10_2 (wrap64 (x11_2 + 1)))) else (none)) else (none)) = some (r1, r2, r3) := by first | (rw [hji41] at H; exact H) | (simp only [hji41] at H ⊢; exact H)
                                        have hji41w : (IntKind.i64.wrap ((wrap64 (x1_2 + 1)) - 1)) = ji41 := (i64_w _).trans hji41
                                        by_cases c42 : 0 ≤ (ji41)
                                        · rw [if_pos c42] at H
                                          have c42b0 : decide (0 ≤ (ji41)) = true := decide_eq_true c42
                                          clear c42
                                          by_cases c43 : (ji41) < (l0.length : Int)
                                          · rw [if_pos c43] at H
                                            have c43b0 : decide ((ji41) < (l0.length : Int)) = true := decide_eq_true c43
                                            clear c43
                                            by_cases c44 : (rd l0 (ji41)) < 128
                                            · rw [if_pos c44] at H
                                              have c44b0 : decide ((rd l0 (ji41)) < 128) = true := decide_eq_true c44
                                              clear c44
                                              simp only [Option.some.injEq, Prod.mk.injEq] at H
                                              obtain ⟨rfl, rfl, rfl⟩ := H
                                              have p119 : 0 ≤ ((ji41) : Int) := of_decide_eq_true (by first | (with_reducible assumption) | assumption)
                                              have q119 : (ji41) < (l0.length : Int) := of_decide_eq_true (by first | (with_reducible assumption) | assumption)
                                              obtain ⟨ad119, e119, hx119_0⟩ := Kd.at_int HR0.out (ji41) p119 q119
                                              obtain rfl : ad116 = ad119 := (by injection e119)
                                              replace p119 := eq_true p119
                                              replace q119 := eq_true q119
                                              go_wp2
                                              go_ret3
                                              exact ⟨by first | rfl | (simp; done) | (simp only [← hji13, ← hji41] <;> (first | rfl | simp)) | (simp [*]; done), by repeat (first | exact Drawn0.refl _ | apply Drawn0.step)⟩
                                            · rw [if_neg c44] at H
                                              have c44b0 : decide ((rd l0 (ji41)) < 128) = false := decide_eq_false c44
                                              clear c44
                                              have H' := Aside0.mk H
                                              clear H
                                              have p119 : 0 ≤ ((ji41) : Int) := of_decide_eq_true (by first | (with_reducible assumption) | assumption)
                                              have q119 : (ji41) < (l0.length : Int) := of_decide_eq_true (by first | (with_reducible assumption) | assumption)
                                              obtain ⟨ad119, e119, hx119_0⟩ := Kd.at_int HR0.out (ji41) p119 q119
                                              obtain rfl : ad116 = ad119 := (by injection e119)
                                              replace p119 := eq_true p119
                                              replace q119 := eq_true q119
                                              go_wp2
                                              go_roundg kj20
                                              case measure => have := HJ5.out; have := HK2.out; have := HJ20.out; omega
                                              case rel => exact ⟨(wrap64 (x1_2 + 1)), (x10_2), (wrap64 (x11_2 + 1)), (by first | rfl | (simp; done) | (simp [*]; done)), (by first | rfl | (simp; done) | (simp [*]; done)), (by first | rfl | (simp; done) | (simp [*]; done)), H', ⟨by have := HJ5.out; have := HK2.out; have := HJ20.out; omega⟩, by repeat (first | exact Drawn0.refl _ | apply Drawn0.step)⟩
                                          · rw [if_neg c43] at H
                                            exact absurd H (by simp)
                                        · rw [if_neg c42] at H
                                          exact absurd H (by simp)
                              · rw [if_neg c20] at H
                                exact absurd H (by simp)
                            · rw [if_neg c19] at H
                              exact absurd H (by simp)
                        · rw [if_neg c17] at H
                          have c17b0 : decide (x11_2 < 10) = false := decide_eq_false c17
                          clear c17
                          simp only [Option.some.injEq, Prod.mk.injEq] at H
                          obtain ⟨rfl, rfl, rfl⟩ := H
                          go_wp2
                          go_ret3
                          exact ⟨by first | rfl | (simp; done) | (simp only [← hji13] <;> (first | rfl | simp)) | (simp [*]; done), by repeat (first | exact Drawn0.refl _ | apply Drawn0.step)⟩
                · rw [if_neg c15] at H
                  exact absurd H (by simp)
              · rw [if_neg c14] at H
                exact absurd H (by simp)
            · rw [if_neg c12] at H
              exact absurd H (by simp)

end Go.Proofs.Ytffmebjogdemhaa.PFnExactGetPrefix
