-- Written by a program of this repo (xprint.py) out of the translation; Lean checks it. SHRUNK
import Derived.Test.YtolpikjbdfpdcaaPFnTokensx0
import Derived.Test.YtolpikjbdfpdcaaPFnTokensx4
import Derived.Test.YtolpikjbdfpdcaaPFnTokensx7
namespace Go.Proofs.Ytolpikjbdfpdcaa.PFnTokens
open Go.RowKit Go.Proofs.YtolpikjbdfpdcaaW.PrintWords Go.Proofs.YtolpikjbdfpdcaaW.PrintLast Go.Proofs.YtolpikjbdfpdcaaW.PrintMore
attribute [local go_sem] max2_int min2_int max_two min_two max_three min_three max_four min_four   -- for this text's walks alone
set_option linter.unusedVariables false
set_option linter.unusedSimpArgs false

/-! ### impl_tokenArgs: function 76 -/
def impl_tokenArgs.f (l0 : List Int) (l1 : List Int) (a2 : Int) : Option (Bool) := if (l0.length : Int) = 16 then (if (l1.length : Int) ≤ 24 then ((impl_inTime.f a2).bind fun t393 => (some t393)) else (some false)) else (some false)
set_option maxHeartbeats 8000000 in
set_option maxRecDepth 100000 in
theorem impl_tokenArgs.calls (A0 : Option Addr) (c0 : Nat) (l0 : List Int) (A1 : Option Addr) (c1 : Nat) (l1 : List Int) (a2 : Int) (r : Bool) (w : World) (hr0 : Kd.C (Kd.int .u8) w A0 l0.length l0) (hc0 : l0.length ≤ c0) (hr1 : Kd.C (Kd.int .u8) w A1 l1.length l1) (hc1 : l1.length ≤ c1) (h : impl_tokenArgs.f l0 l1 a2 = some r) :
    Calls Try.prog 76 #[.slice A0 l0.length c0, .slice A1 l1.length c1, .int .i64 a2] w fun e w' => e = .returned (.bool r) ∧ Drawn0 w w' := by
  have HR0 := Aside0.mk hr0
  have HC0 := Aside0.mk hc0
  clear hr0 hc0
  have HR1 := Aside0.mk hr1
  have HC1 := Aside0.mk hc1
  clear hr1 hc1
  have H : (if (l0.length : Int) = 16 then (if (l1.length : Int) ≤ 24 then ((impl_inTime.f a2).bind fun t393 => (some t393)) else (some false)) else (some false)) = some r := h
  clear h
  by_cases c4 : (l0.length : Int) = 16
  · rw [if_pos c4] at H
    have c4b0 : ((l0.length : Int) == 16) = true := beq_iff_eq.mpr c4
    have c4b1 : ((l0.length : Int) != 16) = false := bne_eq_false_iff_eq.mpr c4
    clear c4
    by_cases c5 : (l1.length : Int) ≤ 24
    · rw [if_pos c5] at H
      have c5b0 : decide ((l1.length : Int) ≤ 24) = true := decide_eq_true c5
      have c5b1 : decide (l1.length ≤ 24) = true := decide_eq_true (by omega)
      clear c5
      replace H := Option.bind_eq_some_iff.mp H
      obtain ⟨t393, A60, H⟩ := H
      replace H : (some t393) = some r := H
      have A6 := Aside0.mk A60
      clear A60
      obtain rfl := Option.some.inj H
      go_enter Try.func76, Try.ntmps76
      go_wp2_with (first | (go_at_call 80; (with_reducible refine (impl_inTime.calls a2 t393 _ A6.out).mono ?_); rintro e w' ⟨rfl, ⟨nd, rfl⟩⟩))
      go_ret
      exact ⟨by first | rfl | (simp; done) | (simp [*]; done), by repeat (first | exact Drawn0.refl _ | apply Drawn0.step)⟩
    · rw [if_neg c5] at H
      have c5b0 : decide ((l1.length : Int) ≤ 24) = false := decide_eq_false c5
      have c5b1 : decide (l1.length ≤ 24) = false := decide_eq_false (by omega)
      clear c5
      obtain rfl := Option.some.inj H
      go_enter Try.func76, Try.ntmps76
      go_wp2
      go_ret
      exact ⟨by first | rfl | (simp; done) | (simp [*]; done), by repeat (first | exact Drawn0.refl _ | apply Drawn0.step)⟩
  · rw [if_neg c4] at H
    have c4b0 : ((l0.length : Int) == 16) = false := beq_eq_false_iff_ne.mpr c4
    have c4b1 : ((l0.length : Int) != 16) = true := bne_iff_ne.mpr c4
    obtain rfl := Option.some.inj H
    go_enter Try.func76, Try.ntmps76
    go_wp2
    go_ret
    exact ⟨by first | rfl | (simp; done) | (simp [*]; done), by repeat (first | exact Drawn0.refl _ | apply Drawn0.step)⟩

/-! ### impl_TokenMake: function 23 -/
def impl_TokenMake.j0 : Nat → List Int → List Int → Int → List Int → Bool → Option (List Int × Int)
  | 0, _, _, _, _, _ => none
  | k + 1, x0, x1, x2, x3, x19 => if x19 = true then (some (([] : List Int), 1)) else ((impl_KeysOf.f k x0).bind fun bt395 => ((impl_fixed.f k ([] : List Int) x2 8).bind fun t407 => (if t407.length + x3.length < 140737488355328 then ((impl_Seal.f k bt395.1 bt395.2.1 bt395.2.2.1 bt395.2.2.2 0 x1 (t407 ++ x3)).bind fun bt413 => (some (bt413.1, bt413.2))) else (none))))
def impl_TokenMake.f (k : Nat) (l0 : List Int) (l1 : List Int) (a2 : Int) (l3 : List Int) : Option (List Int × Int) := (impl_tokenArgs.f l0 l1 a2).bind fun t394 => (if t394 = true then (impl_TokenMake.j0 k l0 l1 a2 l3 (decide ((l3.length : Int) > 8))) else (impl_TokenMake.j0 k l0 l1 a2 l3 true))
theorem impl_TokenMake.mono_l : ∀ k, (∀ y0 y1 y2 y3 y4, LeO (impl_TokenMake.j0 k y0 y1 y2 y3 y4) (impl_TokenMake.j0 (k + 1) y0 y1 y2 y3 y4))
  | 0 => fun _ _ _ _ _ r h => by simp [impl_TokenMake.j0] at h
  | k + 1 => by
    have ih0 := impl_TokenMake.mono_l k
    · intro y0 y1 y2 y3 y4
      unfold impl_TokenMake.j0
      repeat' first
      | (with_reducible exact ih0 _ _ _ _ _)
      | (with_reducible exact impl_KeysOf.mono _ _)
      | (with_reducible exact impl_Seal.mono _ _ _ _ _ _ _ _)
      | (with_reducible exact impl_fixed.mono _ _ _ _)
      | (with_reducible exact LeO.refl _)
      | (with_reducible exact LeO.none _)
      | (with_reducible refine LeO.ite ?_ ?_)
      | (with_reducible refine LeO.bind ?_ (fun _ => ?_))
      | exact ih0 _ _ _ _ _
      | exact impl_KeysOf.mono _ _
      | exact impl_Seal.mono _ _ _ _ _ _ _ _
      | exact impl_fixed.mono _ _ _ _
      | exact LeO.none _
      | refine LeO.ite ?_ ?_
      | refine LeO.bind ?_ (fun _ => ?_)
theorem impl_TokenMake.mono : ∀ a0 a1 a2 a3 k, LeO (impl_TokenMake.f k a0 a1 a2 a3) (impl_TokenMake.f (k + 1) a0 a1 a2 a3) := by
  intro a0 a1 a2 a3 k
  have ih0 := impl_TokenMake.mono_l k
  unfold impl_TokenMake.f
  repeat' first
      | (with_reducible exact ih0 _ _ _ _ _)
      | (with_reducible exact impl_KeysOf.mono _ _)
      | (with_reducible exact impl_Seal.mono _ _ _ _ _ _ _ _)
      | (with_reducible exact impl_fixed.mono _ _ _ _)
      | (with_reducible exact LeO.refl _)
      | (with_reducible exact LeO.none _)
      | (with_reducible refine LeO.ite ?_ ?_)
      | (with_reducible refine LeO.bind ?_ (fun _ => ?_))
      | exact ih0 _ _ _ _ _
      | exact impl_KeysOf.mono _ _
      | exact impl_Seal.mono _ _ _ _ _ _ _ _
      | exact impl_fixed.mono _ _ _ _
      | exact LeO.none _
      | refine LeO.ite ?_ ?_
      | refine LeO.bind ?_ (fun _ => ?_)
set_option maxHeartbeats 8000000 in
set_option maxRecDepth 100000 in
theorem impl_TokenMake.calls (k : Nat) (A0 : Option Addr) (c0 : Nat) (l0 : List Int) (A1 : Option Addr) (c1 : Nat) (l1 : List Int) (a2 : Int) (A3 : Option Addr) (c3 : Nat) (l3 : List Int) (r1 : List Int) (r2 : Int) (w : World) (hr0 : Kd.C (Kd.int .u8) w A0 l0.length l0) (hc0 : l0.length ≤ c0) (hr1 : Kd.C (Kd.int .u8) w A1 l1.length l1) (hc1 : l1.length ≤ c1) (hr3 : Kd.C (Kd.int .u8) w A3 l3.length l3) (hc3 : l3.length ≤ c3) (h : impl_TokenMake.f k l0 l1 a2 l3 = some (r1, r2)) :
    Calls Try.prog 23 #[.slice A0 l0.length c0, .slice A1 l1.length c1, .int .i64 a2, .slice A3 l3.length c3] w fun e w' => ∃ v0_ : Value, e = .returned (.tuple #[v0_, .int .i64 r2]) ∧ Kd.R (Kd.int .u8) 5 w' w.heap.size (fun _ => True) v0_ r1 ∧ Below w.heap.size w w' := by
  have HR0 := Aside0.mk hr0
  have HC0 := Aside0.mk hc0
  clear hr0 hc0
  have HR1 := Aside0.mk hr1
  have HC1 := Aside0.mk hc1
  clear hr1 hc1
  have HR3 := Aside0.mk hr3
  have HC3 := Aside0.mk hc3
  clear hr3 hc3
  have HB := Aside0.mk (Below.refl w.heap.size w)
  have H : ((impl_tokenArgs.f l0 l1 a2).bind fun t394 => (if t394 = true then (impl_TokenMake.j0 k l0 l1 a2 l3 (decide ((l3.length : Int) > 8))) else (impl_TokenMake.j0 k l0 l1 a2 l3 true))) = some (r1, r2) := h
  clear h
  have HC5 := Aside0.mk H
  clear H
  go_enter Try.func23, Try.ntmps23
  go_upto_region 1 with (fail)
  go_cut [19] (fun v19 wc => ∃ (kq : Nat) (x19_4 : Bool), v19 = .bool x19_4 ∧ Aside0 (impl_TokenMake.j0 kq l0 l1 a2 l3 x19_4 = some (r1, r2)) ∧ Aside0 (kq ≤ k) ∧ Aside0 (Below w.heap.size w wc))
  case first =>
    have H := HC5.out
    clear HC5
    replace H := Option.bind_eq_some_iff.mp H
    obtain ⟨t394, A60, H⟩ := H
    replace H : (if t394 = true then (impl_TokenMake.j0 k l0 l1 a2 l3 (decide ((l3.length : Int) > 8))) else (impl_TokenMake.j0 k l0 l1 a2 l3 true)) = some (r1, r2) := H
    have A6 := Aside0.mk A60
    clear A60
    by_cases c7 : t394 = true
    · subst c7
      have H1 : (impl_TokenMake.j0 k l0 l1 a2 l3 (decide ((l3.length : Int) > 8))) = some (r1, r2) := by rw [if_pos rfl] at H; exact H
      clear H
      have H := H1
      clear H1
      have H' := Aside0.mk H
      clear H
      go_wp2_with (first | ((with_reducible refine gate_callee (f := 76) rfl ?_); refine goesL_ (some 13) rfl rfl Try.func76 (by kernel_rfl) rfl #[.slice A0 l0.length c0, .slice A1 l1.length c1, .int .i64 a2] rfl (by (try simp only [List.map_toArray, List.map_cons, List.map_nil]); first | done | rfl | (simp only [List.length_drop, List.length_take]; rfl)) ?_; (with_reducible refine (impl_tokenArgs.calls _ _ l0 _ _ l1 a2 true _ ?side1 ?side2 ?side3 ?side4 A6.out).mono ?_); (case side1 => repeat (first | exact (Kd.C_below HR0.out HB.out) | (with_reducible refine Kd.C_alloc ?_ _) | (with_reducible refine Kd.C_drewN ?_ _) | (with_reducible refine Kd.C_drew ?_))); (case side2 => exact HC0.out); (case side3 => repeat (first | exact (Kd.C_below HR1.out HB.out) | (with_reducible refine Kd.C_alloc ?_ _) | (with_reducible refine Kd.C_drewN ?_ _) | (with_reducible refine Kd.C_drew ?_))); (case side4 => exact HC1.out); rintro e w' ⟨rfl, ⟨nd, rfl⟩⟩; refine ⟨_, rfl, ?_⟩))
      go_meet
      case rel => exact ⟨_, (decide ((l3.length : Int) > 8)), (by first | rfl | (simp; done) | (simp [*]; done)), H', ⟨by first | omega | exact Nat.le_refl _⟩, ⟨by repeat (first | (with_reducible first | exact HB.out | apply below_alloc | apply pw_below_drewN | apply below_drew1) | exact HB.out)⟩⟩
    · replace c7 := Bool.eq_false_iff.mpr c7
      subst c7
      have H1 : (impl_TokenMake.j0 k l0 l1 a2 l3 true) = some (r1, r2) := by rw [if_neg (show ¬ (false = true) by decide)] at H; exact H
      clear H
      have H := H1
      clear H1
      have H' := Aside0.mk H
      clear H
      go_wp2_with (first | ((with_reducible refine gate_callee (f := 76) rfl ?_); refine goesL_ (some 13) rfl rfl Try.func76 (by kernel_rfl) rfl #[.slice A0 l0.length c0, .slice A1 l1.length c1, .int .i64 a2] rfl (by (try simp only [List.map_toArray, List.map_cons, List.map_nil]); first | done | rfl | (simp only [List.length_drop, List.length_take]; rfl)) ?_; (with_reducible refine (impl_tokenArgs.calls _ _ l0 _ _ l1 a2 false _ ?side1 ?side2 ?side3 ?side4 A6.out).mono ?_); (case side1 => repeat (first | exact (Kd.C_below HR0.out HB.out) | (with_reducible refine Kd.C_alloc ?_ _) | (with_reducible refine Kd.C_drewN ?_ _) | (with_reducible refine Kd.C_drew ?_))); (case side2 => exact HC0.out); (case side3 => repeat (first | exact (Kd.C_below HR1.out HB.out) | (with_reducible refine Kd.C_alloc ?_ _) | (with_reducible refine Kd.C_drewN ?_ _) | (with_reducible refine Kd.C_drew ?_))); (case side4 => exact HC1.out); rintro e w' ⟨rfl, ⟨nd, rfl⟩⟩; refine ⟨_, rfl, ?_⟩))
      go_meet
      case rel => exact ⟨_, (true), (by first | rfl | (simp; done) | (simp [*]; done)), H', ⟨by first | omega | exact Nat.le_refl _⟩, ⟨by repeat (first | (with_reducible first | exact HB.out | apply below_alloc | apply pw_below_drewN | apply below_drew1) | exact HB.out)⟩⟩
  case rest =>
    clear HC5
    try clear c1
    try clear c2
    try clear p2
    try clear c3
    try clear c7
    obtain ⟨kq, x19_4, rfl, HA, HJ4, HB⟩ := hcut
    cases kq with
    | zero => exact absurd HA.out (by simp [impl_TokenMake.j0])
    | succ kj4 =>
      have H := HA.out
      clear HA
      simp only [impl_TokenMake.j0] at H
      by_cases c8 : x19_4 = true
      · subst c8
        have H1 : (some (([] : List Int), 1)) = some (r1, r2) := by rw [if_pos rfl] at H; exact H
        clear H
        have H := H1
        clear H1
        simp only [Option.some.injEq, Prod.mk.injEq] at H
        obtain ⟨rfl, rfl⟩ := H
        go_wp2
        go_ret2
        exact ⟨_, by first | rfl | (simp [errW_none, errW_some] <;> rfl) | (simp [*, errW_none, errW_some] <;> rfl), by first | exact Kd.R_nil _ _ _ _ _ | exact Kd.N_nil _ _ _ _ _ | exact Kd.V_nil _ _ _ _ _ | exact Kd.Q_nil _ _ _ _ _ | exact Kd.S_nil _ _ _ _ _, by repeat (first | (with_reducible first | exact HB.out | apply below_alloc | apply pw_below_drewN | apply below_drew1) | exact HB.out)⟩
      · replace c8 := Bool.eq_false_iff.mpr c8
        subst c8
        have H1 : ((impl_KeysOf.f kj4 l0).bind fun bt395 => ((impl_fixed.f kj4 ([] : List Int) a2 8).bind fun t407 => (if t407.length + l3.length < 140737488355328 then ((impl_Seal.f kj4 bt395.1 bt395.2.1 bt395.2.2.1 bt395.2.2.2 0 l1 (t407 ++ l3)).bind fun bt413 => (some (bt413.1, bt413.2))) else (none)))) = some (r1, r2) := by rw [if_neg (show ¬ (false = true) by decide)] at H; exact H
        clear H
        have H := H1
        clear H1
        replace H := Option.bind_eq_some_iff.mp H
        obtain ⟨⟨t395, t398, t401, t404⟩, A90, H⟩ := H
        replace H : ((impl_fixed.f kj4 ([] : List Int) a2 8).bind fun t407 => (if t407.length + l3.length < 140737488355328 then ((impl_Seal.f kj4 t395 t398 t401 t404 0 l1 (t407 ++ l3)).bind fun bt413 => (some (bt413.1, bt413.2))) else (none))) = some (r1, r2) := H
        have A9 := Aside0.mk A90
        clear A90
        replace H := Option.bind_eq_some_iff.mp H
        obtain ⟨t407, A100, H⟩ := H
        replace H : (if t407.length + l3.length < 140737488355328 then ((impl_Seal.f kj4 t395 t398 t401 t404 0 l1 (t407 ++ l3)).bind fun bt413 => (some (bt413.1, bt413.2))) else (none)) = some (r1, r2) := H
        have A10 := Aside0.mk A100
        clear A100
        by_cases c11 : t407.length + l3.length < 140737488355328
        · rw [if_pos c11] at H
          have LMc11 := Aside0.mk c11
          clear c11
          obtain ⟨y410, hy410⟩ : ∃ y_ : List Int, y_ = (t407 ++ l3) := ⟨_, rfl⟩
          replace H : ((impl_Seal.f kj4 t395 t398 t401 t404 0 l1 y410).bind fun bt413 => (some (bt413.1, bt413.2))) = some (r1, r2) := by first | (rw [hy410]; with_reducible exact H) | (have H2_ := (Option.bind_some _ _).symm.trans H; rw [hy410]; with_reducible exact H2_) | (have H2_ := (Option.bind_some _ _).symm.trans H; with_reducible exact H2_) | with_reducible exact H | (rw [hy410]; exact H) | exact H
          have Ny410 := Aside0.mk hy410
          clear hy410
          replace H := Option.bind_eq_some_iff.mp H
          obtain ⟨⟨t413, t416⟩, A120, H⟩ := H
          replace H : (some (t413, t416)) = some (r1, r2) := H
          have A12 := Aside0.mk A120
          clear A120
          simp only [Option.some.injEq, Prod.mk.injEq] at H
          obtain ⟨rfl, rfl⟩ := H
          go_wp2_with (first | ((with_reducible refine gate_callee (f := 73) rfl ?_); refine goesL_ (some 21) rfl rfl Try.func73 (by kernel_rfl) rfl #[.slice A0 l0.length c0] rfl (by (try simp only [List.map_toArray, List.map_cons, List.map_nil]); first | done | rfl | (simp only [List.length_drop, List.length_take]; rfl)) ?_; (with_reducible refine (impl_KeysOf.calls kj4 _ _ l0 t395 t398 t401 t404 _ ?side1 ?side2 A9.out).mono ?_); (case side1 => repeat (first | exact (Kd.C_below HR0.out HB.out) | (with_reducible refine Kd.C_alloc ?_ _) | (with_reducible refine Kd.C_drewN ?_ _) | (with_reducible refine Kd.C_drew ?_))); (case side2 => exact HC0.out); rintro e w13 ⟨v396, v399, v402, v405, rfl, ho0, ho1, ho2, ho3, hb⟩; refine ⟨_, rfl, ?_⟩; have n0_ := Aside0.mk (Kd.R_lower ho0 (below_size (hq HB.out))); have n1_ := Aside0.mk (Kd.R_lower ho1 (below_size (hq HB.out))); have n2_ := Aside0.mk (Kd.R_lower ho2 (below_size (hq HB.out))); have n3_ := Aside0.mk (Kd.R_lower ho3 (below_size (hq HB.out))); have n4_ := Aside0.mk (below_step (hq HB.out) hb); clear HB; have HO397 := n0_; have HO400 := n1_; have HO403 := n2_; have HO406 := n3_; have HB := n4_; clear n0_ n1_ n2_ n3_ n4_; (try clear hb); (try clear hb2); (try clear hk); (try clear hi); (try clear ho0); (try clear ho1); (try clear ho2); (try clear ho3)) | ((with_reducible refine gate_callee (f := 72) rfl ?_); refine goesL_ (some 24) rfl rfl Try.func72 (by kernel_rfl) rfl #[.slice none 0 0, .int .i64 a2, .int .i64 8] rfl (by (try simp only [List.map_toArray, List.map_cons, List.map_nil]); first | done | rfl | (simp only [List.length_drop, List.length_take]; rfl)) ?_; (refine (impl_fixed.calls kj4 (fun k_ => some k_ = (.slice none 0 0 : Value).ownBlock) (.slice none 0 0) ([] : List Int) a2 8 t407 w _ ?side1 ?side2 A10.out).mono ?_); (case side1 => repeat (first | (with_reducible first | exact HB.out | apply below_alloc | apply pw_below_drewN | apply below_drew1) | exact HB.out)); (case side2 => exact Kd.R_nil _ _ _ _ _); rintro e w14 ⟨v408, rfl, ho0, hb, hkp⟩; refine ⟨_, rfl, ?_⟩; have n0_ := Aside0.mk (Kd.R_mono (ok' := fun k_ => some k_ ≠ (v399 : Value).ownBlock ∧ some k_ ≠ (v402 : Value).ownBlock ∧ some k_ ≠ (v405 : Value).ownBlock ∧ some k_ ≠ (v408 : Value).ownBlock) (Kd.R_keptB (HO397.out) hkp (fun k_ hk_ hs_ => (fun e_ => by simp [Value.ownBlock] at e_) hs_)) (fun k_ hk_ => ⟨hk_.1.1, hk_.1.2.1, hk_.1.2.2, fun e_ => Or.elim (ho0.1 k_ e_.symm) (fun hs_ => hk_.2.1 hs_) (fun hn_ => Nat.not_le.2 hk_.2.2 hn_)⟩)); have n1_ := Aside0.mk (Kd.R_mono (ok' := fun k_ => some k_ ≠ (v396 : Value).ownBlock ∧ some k_ ≠ (v402 : Value).ownBlock ∧ some k_ ≠ (v405 : Value).ownBlock ∧ some k_ ≠ (v408 : Value).ownBlock) (Kd.R_keptB (HO400.out) hkp (fun k_ hk_ hs_ => (fun e_ => by simp [Value.ownBlock] at e_) hs_)) (fun k_ hk_ => ⟨hk_.1.1, hk_.1.2.1, hk_.1.2.2, fun e_ => Or.elim (ho0.1 k_ e_.symm) (fun hs_ => hk_.2.1 hs_) (fun hn_ => Nat.not_le.2 hk_.2.2 hn_)⟩)); have n2_ := Aside0.mk (Kd.R_mono (ok' := fun k_ => some k_ ≠ (v396 : Value).ownBlock ∧ some k_ ≠ (v399 : Value).ownBlock ∧ some k_ ≠ (v405 : Value).ownBlock ∧ some k_ ≠ (v408 : Value).ownBlock) (Kd.R_keptB (HO403.out) hkp (fun k_ hk_ hs_ => (fun e_ => by simp [Value.ownBlock] at e_) hs_)) (fun k_ hk_ => ⟨hk_.1.1, hk_.1.2.1, hk_.1.2.2, fun e_ => Or.elim (ho0.1 k_ e_.symm) (fun hs_ => hk_.2.1 hs_) (fun hn_ => Nat.not_le.2 hk_.2.2 hn_)⟩)); have n3_ := Aside0.mk (Kd.R_mono (ok' := fun k_ => some k_ ≠ (v396 : Value).ownBlock ∧ some k_ ≠ (v399 : Value).ownBlock ∧ some k_ ≠ (v402 : Value).ownBlock ∧ some k_ ≠ (v408 : Value).ownBlock) (Kd.R_keptB (HO406.out) hkp (fun k_ hk_ hs_ => (fun e_ => by simp [Value.ownBlock] at e_) hs_)) (fun k_ hk_ => ⟨hk_.1.1, hk_.1.2.1, hk_.1.2.2, fun e_ => Or.elim (ho0.1 k_ e_.symm) (fun hs_ => hk_.2.1 hs_) (fun hn_ => Nat.not_le.2 hk_.2.2 hn_)⟩)); have n4_ := Aside0.mk (Kd.R_mono (ok' := fun k_ => some k_ ≠ (v396 : Value).ownBlock ∧ some k_ ≠ (v399 : Value).ownBlock ∧ some k_ ≠ (v402 : Value).ownBlock ∧ some k_ ≠ (v405 : Value).ownBlock) ho0 (fun k_ hk_ => ⟨Or.elim hk_ (fun hs_ => absurd hs_ (by simp [Value.ownBlock])) (fun hn_ => (Kd.fresh' (Kd.R_lt (rq HO397.out)) k_ hn_)), Or.elim hk_ (fun hs_ => absurd hs_ (by simp [Value.ownBlock])) (fun hn_ => (Kd.fresh' (Kd.R_lt (rq HO400.out)) k_ hn_)), Or.elim hk_ (fun hs_ => absurd hs_ (by simp [Value.ownBlock])) (fun hn_ => (Kd.fresh' (Kd.R_lt (rq HO403.out)) k_ hn_)), Or.elim hk_ (fun hs_ => absurd hs_ (by simp [Value.ownBlock])) (fun hn_ => (Kd.fresh' (Kd.R_lt (rq HO406.out)) k_ hn_))⟩)); have n5_ := Aside0.mk (hb); clear HO397; clear HO400; clear HO403; clear HO406; clear HB; have HO397 := n0_; have HO400 := n1_; have HO403 := n2_; have HO406 := n3_; have HO409 := n4_; have HB := n5_; clear n0_ n1_ n2_ n3_ n4_ n5_; (try clear hb); (try clear hkp); (try clear ho0)) | ((with_reducible refine gate_builtin (b := .append) (xs := #[.tmp 24, .tmp 25]) rfl ?_); (try (refine gate_guard (by rfl) ?_; dsimp only)); at_builtin; refine Kd.R_append_rows (Kd.int .u8) (w0 := w) w.heap.size rfl (.tmp 24) (.tmp 25) 22 5 (.int .u8 0) 1 rfl Try.underlying22 info5 rfl (by decide) (by omega) v408 t407 l3 _ _ _ (fun k_ => some k_ ≠ (v396 : Value).ownBlock ∧ some k_ ≠ (v399 : Value).ownBlock ∧ some k_ ≠ (v402 : Value).ownBlock ∧ some k_ ≠ (v405 : Value).ownBlock) (fun _ => False) rfl rfl ?aO ?aR (fun _ _ h => h) (fun _ h => h.elim) ?aF ?aB ?aS ?aL ?_; (case aR => repeat (first | exact (Kd.C_below HR3.out HB.out) | (with_reducible refine Kd.C_alloc ?_ _) | (with_reducible refine Kd.C_drewN ?_ _) | (with_reducible refine Kd.C_drew ?_))); (case aB => exact (hq HB.out)); (case aF => exact (fun k_ hk => ⟨Kd.fresh' (Kd.R_lt (rq HO397.out)) k_ hk, Kd.fresh' (Kd.R_lt (rq HO400.out)) k_ hk, Kd.fresh' (Kd.R_lt (rq HO403.out)) k_ hk, Kd.fresh' (Kd.R_lt (rq HO406.out)) k_ hk⟩)); (case aO => exact (rq HO409.out)); (case aS => exact (below_size (hq HB.out))); (case aL => have := LMc11.out; omega); intro v411 w15 ho hb hg hat; rw [← Ny410.out] at ho; have n0_ := Aside0.mk (Kd.R_after (ok := (fun k_ => some k_ ≠ (v399 : Value).ownBlock ∧ some k_ ≠ (v402 : Value).ownBlock ∧ some k_ ≠ (v405 : Value).ownBlock)) (rq (Kd.R_mono HO397.out (fun _ hk => ⟨⟨hk.1, ⟨hk.2.1, hk.2.2.1⟩⟩, hk.2.2.2⟩))) hg hat); have n1_ := Aside0.mk (Kd.R_after (ok := (fun k_ => some k_ ≠ (v396 : Value).ownBlock ∧ some k_ ≠ (v402 : Value).ownBlock ∧ some k_ ≠ (v405 : Value).ownBlock)) (rq (Kd.R_mono HO400.out (fun _ hk => ⟨⟨hk.1, ⟨hk.2.1, hk.2.2.1⟩⟩, hk.2.2.2⟩))) hg hat); have n2_ := Aside0.mk (Kd.R_after (ok := (fun k_ => some k_ ≠ (v396 : Value).ownBlock ∧ some k_ ≠ (v399 : Value).ownBlock ∧ some k_ ≠ (v405 : Value).ownBlock)) (rq (Kd.R_mono HO403.out (fun _ hk => ⟨⟨hk.1, ⟨hk.2.1, hk.2.2.1⟩⟩, hk.2.2.2⟩))) hg hat); have n3_ := Aside0.mk (Kd.R_after (ok := (fun k_ => some k_ ≠ (v396 : Value).ownBlock ∧ some k_ ≠ (v399 : Value).ownBlock ∧ some k_ ≠ (v402 : Value).ownBlock)) (rq (Kd.R_mono HO406.out (fun _ hk => ⟨⟨hk.1, ⟨hk.2.1, hk.2.2.1⟩⟩, hk.2.2.2⟩))) hg hat); have n4_ := Aside0.mk (hb); have n5_ := Aside0.mk (ho); clear HO397; clear HO400; clear HO403; clear HO406; clear HB; clear HO409; have HO397 := n0_; have HO400 := n1_; have HO403 := n2_; have HO406 := n3_; have HB := n4_; have HO412 := n5_; clear n0_ n1_ n2_ n3_ n4_ n5_; clear ho hb hg hat; obtain ⟨Ao16, co16, eo16⟩ := Kd.R_slice HO397.out; subst eo16; obtain ⟨Ao17, co17, eo17⟩ := Kd.R_slice HO400.out; subst eo17; obtain ⟨Ao18, co18, eo18⟩ := Kd.R_slice HO403.out; subst eo18; obtain ⟨Ao19, co19, eo19⟩ := Kd.R_slice HO406.out; subst eo19; obtain ⟨Ao20, co20, eo20⟩ := Kd.R_slice HO412.out; subst eo20) | ((with_reducible refine gate_callee (f := 29) rfl ?_); refine goesL_ (some 27) rfl rfl Try.func29 (by kernel_rfl) rfl #[.agg #[.slice Ao16 t395.length co16, .slice Ao17 t398.length co17, .slice Ao18 t401.length co18, .slice Ao19 t404.length co19], .int .i64 0, .slice A1 l1.length c1, .slice Ao20 y410.length co20] rfl (by (try simp only [List.map_toArray, List.map_cons, List.map_nil]); first | done | rfl | (simp only [List.length_drop, List.length_take]; rfl)) ?_; (with_reducible refine (impl_Seal.calls kj4 _ _ t395 _ _ t398 _ _ t401 _ _ t404 0 _ _ l1 _ _ y410 t413 t416 _ ?side1 ?side2 ?side3 ?side4 ?side5 ?side6 ?side7 ?side8 ?side9 ?side10 ?side11 ?side12 A12.out).mono ?_); (case side1 => repeat (first | exact (Kd.R_reads' HO397.out).2.2 | (with_reducible refine Kd.C_alloc ?_ _) | (with_reducible refine Kd.C_drewN ?_ _) | (with_reducible refine Kd.C_drew ?_))); (case side2 => exact (Kd.R_reads' HO397.out).2.1); (case side3 => repeat (first | exact (Kd.R_reads' HO400.out).2.2 | (with_reducible refine Kd.C_alloc ?_ _) | (with_reducible refine Kd.C_drewN ?_ _) | (with_reducible refine Kd.C_drew ?_))); (case side4 => exact (Kd.R_reads' HO400.out).2.1); (case side5 => repeat (first | exact (Kd.R_reads' HO403.out).2.2 | (with_reducible refine Kd.C_alloc ?_ _) | (with_reducible refine Kd.C_drewN ?_ _) | (with_reducible refine Kd.C_drew ?_))); (case side6 => exact (Kd.R_reads' HO403.out).2.1); (case side7 => repeat (first | exact (Kd.R_reads' HO406.out).2.2 | (with_reducible refine Kd.C_alloc ?_ _) | (with_reducible refine Kd.C_drewN ?_ _) | (with_reducible refine Kd.C_drew ?_))); (case side8 => exact (Kd.R_reads' HO406.out).2.1); (case side9 => repeat (first | exact (Kd.C_below HR1.out HB.out) | (with_reducible refine Kd.C_alloc ?_ _) | (with_reducible refine Kd.C_drewN ?_ _) | (with_reducible refine Kd.C_drew ?_))); (case side10 => exact HC1.out); (case side11 => repeat (first | exact (Kd.R_reads' HO412.out).2.2 | (with_reducible refine Kd.C_alloc ?_ _) | (with_reducible refine Kd.C_drewN ?_ _) | (with_reducible refine Kd.C_drew ?_))); (case side12 => exact (Kd.R_reads' HO412.out).2.1); rintro e w21 ⟨v414, rfl, ho0, hb⟩; refine ⟨_, rfl, ?_⟩; have n0_ := Aside0.mk (Kd.R_elder' (rq HO397.out) (Kd.R_base ho0) hb); have n1_ := Aside0.mk (Kd.R_elder' (rq HO400.out) (Kd.R_base ho0) hb); have n2_ := Aside0.mk (Kd.R_elder' (rq HO403.out) (Kd.R_base ho0) hb); have n3_ := Aside0.mk (Kd.R_elder' (rq HO406.out) (Kd.R_base ho0) hb); have n4_ := Aside0.mk (Kd.R_elder' (rq HO412.out) (Kd.R_base ho0) hb); have n5_ := Aside0.mk (Kd.R_lower (Kd.R_new' (Kd.R_new' (Kd.R_new' (Kd.R_new' (Kd.R_new' ho0 (Kd.R_lt (rq HO397.out))) (Kd.R_lt (rq HO400.out))) (Kd.R_lt (rq HO403.out))) (Kd.R_lt (rq HO406.out))) (Kd.R_lt (rq HO412.out))) (below_size (hq HB.out))); have n6_ := Aside0.mk (below_step (hq HB.out) hb); clear HO397; clear HO400; clear HO403; clear HO406; clear HO412; clear HB; have HO397 := n0_; have HO400 := n1_; have HO403 := n2_; have HO406 := n3_; have HO412 := n4_; have HO415 := n5_; have HB := n6_; clear n0_ n1_ n2_ n3_ n4_ n5_ n6_; (try clear hb); (try clear hb2); (try clear hk); (try clear hi); (try clear ho0)))
          go_ret2
          exact ⟨_, by first | rfl | (simp [errW_none, errW_some] <;> rfl) | (simp [*, errW_none, errW_some] <;> rfl), by (with_reducible repeat (first | apply Kd.R_alloc | apply Kd.R_drewN | apply Kd.R_drew)); exact Kd.R_mono HO415.out (fun _ hk => trivial), by repeat (first | (with_reducible first | exact HB.out | apply below_alloc | apply pw_below_drewN | apply below_drew1) | exact HB.out)⟩
        · rw [if_neg c11] at H
          exact absurd H (by simp)

end Go.Proofs.Ytolpikjbdfpdcaa.PFnTokens
