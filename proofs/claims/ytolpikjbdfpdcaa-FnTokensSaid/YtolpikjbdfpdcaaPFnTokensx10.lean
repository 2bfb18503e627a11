-- Written by a program of this repo (xprint.py) out of the translation; Lean checks it. SHRUNK
import Derived.Test.YtolpikjbdfpdcaaPFnTokensx0
import Derived.Test.YtolpikjbdfpdcaaPFnTokensx4
import Derived.Test.YtolpikjbdfpdcaaPFnTokensx9
namespace Go.Proofs.Ytolpikjbdfpdcaa.PFnTokens
open Go.RowKit Go.Proofs.YtolpikjbdfpdcaaW.PrintWords Go.Proofs.YtolpikjbdfpdcaaW.PrintLast Go.Proofs.YtolpikjbdfpdcaaW.PrintMore
attribute [local go_sem] max2_int min2_int max_two min_two max_three min_three max_four min_four   -- for this text's walks alone
set_option linter.unusedVariables false
set_option linter.unusedSimpArgs false

/-! ### spec_l01Value: function 77 -/
def spec_l01Value.l0 : Nat → List Int → Int → Int → Option (Int)
  | 0, _, _, _ => none
  | k + 1, x0, x3, x4 => if x4 < (x0.length : Int) then (if 0 ≤ x4 then (spec_l01Value.l0 k x0 (wrap64 ((wrap64 (x3 * 256)) + (wrap64 (rd x0 x4)))) (wrap64 (x4 + 1))) else (none)) else (some x3)
def spec_l01Value.f (k : Nat) (l0 : List Int) : Option (Int) := spec_l01Value.l0 k l0 0 0
theorem spec_l01Value.mono_l : ∀ k, (∀ y0 y1 y2, LeO (spec_l01Value.l0 k y0 y1 y2) (spec_l01Value.l0 (k + 1) y0 y1 y2))
  | 0 => fun _ _ _ r h => by simp [spec_l01Value.l0] at h
  | k + 1 => by
    have ih0 := spec_l01Value.mono_l k
    · intro y0 y1 y2
      unfold spec_l01Value.l0
      repeat' first
      | (with_reducible exact ih0 _ _ _)
      | (with_reducible exact LeO.refl _)
      | (with_reducible exact LeO.none _)
      | (with_reducible refine LeO.ite ?_ ?_)
      | (with_reducible refine LeO.bind ?_ (fun _ => ?_))
      | exact ih0 _ _ _
      | exact LeO.none _
      | refine LeO.ite ?_ ?_
      | refine LeO.bind ?_ (fun _ => ?_)
theorem spec_l01Value.mono : ∀ a0 k, LeO (spec_l01Value.f k a0) (spec_l01Value.f (k + 1) a0) := by
  intro a0 k
  have ih0 := spec_l01Value.mono_l k
  unfold spec_l01Value.f
  repeat' first
      | (with_reducible exact ih0 _ _ _)
      | (with_reducible exact LeO.refl _)
      | (with_reducible exact LeO.none _)
      | (with_reducible refine LeO.ite ?_ ?_)
      | (with_reducible refine LeO.bind ?_ (fun _ => ?_))
      | exact ih0 _ _ _
      | exact LeO.none _
      | refine LeO.ite ?_ ?_
      | refine LeO.bind ?_ (fun _ => ?_)
set_option maxHeartbeats 8000000 in
set_option maxRecDepth 100000 in
theorem spec_l01Value.calls (k : Nat) (A0 : Option Addr) (c0 : Nat) (l0 : List Int) (r : Int) (w : World) (hr0 : Kd.C (Kd.int .u8) w A0 l0.length l0) (hc0 : l0.length ≤ c0) (h : spec_l01Value.f k l0 = some r) :
    Calls Try.prog 77 #[.slice A0 l0.length c0] w fun e w' => e = .returned (.int .i64 r) ∧ Drawn0 w w' := by
  have HR0 := Aside0.mk hr0
  have HC0 := Aside0.mk hc0
  clear hr0 hc0
  have H : (spec_l01Value.l0 k l0 0 0) = some r := h
  clear h
  have H' := Aside0.mk H
  clear H
  go_enter Try.func77, Try.ntmps77
  go_wp2
  go_loopg [3, 4] k (fun kq v3 v4 w' => ∃ (x3_1 : Int) (x4_1 : Int), v3 = .int .i64 x3_1 ∧ v4 = .int .i64 x4_1 ∧ Aside0 (spec_l01Value.l0 kq l0 x3_1 x4_1 = some r) ∧ Aside0 (kq ≤ k) ∧ Drawn0 w w')
  case atStart => exact ⟨(0), (0), (by first | rfl | (simp; done) | (simp [*]; done)), (by first | rfl | (simp; done) | (simp [*]; done)), H', ⟨Nat.le_refl _⟩, by repeat (first | exact Drawn0.refl _ | apply Drawn0.step)⟩
  case round =>
    clear H'
    obtain ⟨x3_1, x4_1, rfl, rfl, HA, HK1, ⟨m1, rfl⟩⟩ := hrel
    cases gk with
    | zero => exact absurd HA.out (by simp [spec_l01Value.l0])
    | succ k1 =>
      have H := HA.out
      clear HA
      simp only [spec_l01Value.l0] at H
      by_cases c2 : x4_1 < (l0.length : Int)
      · rw [if_pos c2] at H
        have c2b0 : decide (x4_1 < (l0.length : Int)) = true := decide_eq_true c2
        clear c2
        by_cases c3 : 0 ≤ x4_1
        · rw [if_pos c3] at H
          have c3b0 : decide (0 ≤ x4_1) = true := decide_eq_true c3
          clear c3
          have H' := Aside0.mk H
          clear H
          have p417 : 0 ≤ (x4_1 : Int) := of_decide_eq_true (by first | (with_reducible assumption) | assumption)
          have q417 : x4_1 < (l0.length : Int) := of_decide_eq_true (by first | (with_reducible assumption) | assumption)
          obtain ⟨ad417, e417, hx417_0⟩ := Kd.at_int HR0.out x4_1 p417 q417
          cases e417
          replace p417 := eq_true p417
          replace q417 := eq_true q417
          go_wp2
          go_roundg k1
          case measure => have := HK1.out; omega
          case rel => exact ⟨(wrap64 ((wrap64 (x3_1 * 256)) + (wrap64 (rd l0 x4_1)))), (wrap64 (x4_1 + 1)), (by first | rfl | (simp; done) | (simp [*]; done)), (by first | rfl | (simp; done) | (simp [*]; done)), H', ⟨by have := HK1.out; omega⟩, by repeat (first | exact Drawn0.refl _ | apply Drawn0.step)⟩
        · rw [if_neg c3] at H
          exact absurd H (by simp)
      · rw [if_neg c2] at H
        have c2b0 : decide (x4_1 < (l0.length : Int)) = false := decide_eq_false c2
        clear c2
        obtain rfl := Option.some.inj H
        go_wp2
        go_ret
        exact ⟨by first | rfl | (simp; done) | (simp [*]; done), by repeat (first | exact Drawn0.refl _ | apply Drawn0.step)⟩

/-! ### spec_TokenCheck: function 25 -/
def spec_TokenCheck.j0 : Nat → Int → List Int → Bool → Option (List Int × Int)
  | 0, _, _, _ => none
  | k + 1, x2, x10, x44 => if x44 = true then (some ((([] : List Int)), 13)) else (if 8 ≤ (x10.length : Int) then ((spec_l01Value.f k (x10.take 8)).bind fun t446 => (if t446 > x2 then (some ((([] : List Int)), 13)) else (if (wrap64 (x2 - t446)) > 60000000 then (some ((([] : List Int)), 13)) else ((spec_l03Copy.f (x10.drop 8)).bind fun t457 => (some (t457, 0)))))) else (none))
def spec_TokenCheck.f (k : Nat) (l0 : List Int) (l1 : List Int) (a2 : Int) (l3 : List Int) : Option (List Int × Int) := (spec_l11TokenArgs.f l0 l1 a2).bind fun t418 => (if t418 = true then ((spec_KeysOf.f k l0).bind fun bt422 => ((spec_OpenSealed.f k bt422.1 bt422.2.1 bt422.2.2.1 bt422.2.2.2 0 l1 l3).bind fun bt434 => (if bt434.2 = 0 then (if (bt434.1.length : Int) < 8 then (spec_TokenCheck.j0 k a2 bt434.1 true) else (if (bt434.1.length : Int) > 16 then (spec_TokenCheck.j0 k a2 bt434.1 true) else (if 0 < (bt434.1.length : Int) then (spec_TokenCheck.j0 k a2 bt434.1 (decide ((rd bt434.1 0) ≥ 128))) else (none)))) else (spec_TokenCheck.j0 k a2 bt434.1 true)))) else (some ((([] : List Int)), 1)))
theorem spec_TokenCheck.mono_l : ∀ k, (∀ y0 y1 y2, LeO (spec_TokenCheck.j0 k y0 y1 y2) (spec_TokenCheck.j0 (k + 1) y0 y1 y2))
  | 0 => fun _ _ _ r h => by simp [spec_TokenCheck.j0] at h
  | k + 1 => by
    have ih0 := spec_TokenCheck.mono_l k
    · intro y0 y1 y2
      unfold spec_TokenCheck.j0
      repeat' first
      | (with_reducible exact ih0 _ _ _)
      | (with_reducible exact spec_KeysOf.mono _ _)
      | (with_reducible exact spec_OpenSealed.mono _ _ _ _ _ _ _ _)
      | (with_reducible exact spec_l01Value.mono _ _)
      | (with_reducible exact LeO.refl _)
      | (with_reducible exact LeO.none _)
      | (with_reducible refine LeO.ite ?_ ?_)
      | (with_reducible refine LeO.bind ?_ (fun _ => ?_))
      | exact ih0 _ _ _
      | exact spec_KeysOf.mono _ _
      | exact spec_OpenSealed.mono _ _ _ _ _ _ _ _
      | exact spec_l01Value.mono _ _
      | exact LeO.none _
      | refine LeO.ite ?_ ?_
      | refine LeO.bind ?_ (fun _ => ?_)
theorem spec_TokenCheck.mono : ∀ a0 a1 a2 a3 k, LeO (spec_TokenCheck.f k a0 a1 a2 a3) (spec_TokenCheck.f (k + 1) a0 a1 a2 a3) := by
  intro a0 a1 a2 a3 k
  have ih0 := spec_TokenCheck.mono_l k
  unfold spec_TokenCheck.f
  repeat' first
      | (with_reducible exact ih0 _ _ _)
      | (with_reducible exact spec_KeysOf.mono _ _)
      | (with_reducible exact spec_OpenSealed.mono _ _ _ _ _ _ _ _)
      | (with_reducible exact spec_l01Value.mono _ _)
      | (with_reducible exact LeO.refl _)
      | (with_reducible exact LeO.none _)
      | (with_reducible refine LeO.ite ?_ ?_)
      | (with_reducible refine LeO.bind ?_ (fun _ => ?_))
      | exact ih0 _ _ _
      | exact spec_KeysOf.mono _ _
      | exact spec_OpenSealed.mono _ _ _ _ _ _ _ _
      | exact spec_l01Value.mono _ _
      | exact LeO.none _
      | refine LeO.ite ?_ ?_
      | refine LeO.bind ?_ (fun _ => ?_)
set_option maxHeartbeats 8000000 in
set_option maxRecDepth 100000 in
theorem spec_TokenCheck.calls (k : Nat) (A0 : Option Addr) (c0 : Nat) (l0 : List Int) (A1 : Option Addr) (c1 : Nat) (l1 : List Int) (a2 : Int) (A3 : Option Addr) (c3 : Nat) (l3 : List Int) (r1 : List Int) (r2 : Int) (w : World) (hr0 : Kd.C (Kd.int .u8) w A0 l0.length l0) (hc0 : l0.length ≤ c0) (hr1 : Kd.C (Kd.int .u8) w A1 l1.length l1) (hc1 : l1.length ≤ c1) (hr3 : Kd.C (Kd.int .u8) w A3 l3.length l3) (hc3 : l3.length ≤ c3) (h : spec_TokenCheck.f k l0 l1 a2 l3 = some (r1, r2)) :
    Calls Try.prog 25 #[.slice A0 l0.length c0, .slice A1 l1.length c1, .int .i64 a2, .slice A3 l3.length c3] w fun e w' => ∃ v0_ : Value, e = .returned (.tuple #[v0_, .int .i64 r2]) ∧ Kd.R (Kd.int .u8) 5 w' w.heap.size (fun _ => True) v0_ r1 ∧ Below w.heap.size w w' := by
  have HR0 := Aside0.mk hr0
  have HC0 := Aside0.mk hc0
  clear hr0 hc0
  have HR1 := Aside0.mk hr1
  have HC1 := Aside0.mk hc1
  clear hr1 hc1
  have HR3 := Aside0.mk hr3
  have HC3 := Aside0.mk hc3
  clear hr3 hc3
  have HB := Aside0.mk (Below.refl w.heap.size w)
  have H : ((spec_l11TokenArgs.f l0 l1 a2).bind fun t418 => (if t418 = true then ((spec_KeysOf.f k l0).bind fun bt422 => ((spec_OpenSealed.f k bt422.1 bt422.2.1 bt422.2.2.1 bt422.2.2.2 0 l1 l3).bind fun bt434 => (if bt434.2 = 0 then (if (bt434.1.length : Int) < 8 then (spec_TokenCheck.j0 k a2 bt434.1 true) else (if (bt434.1.length : Int) > 16 then (spec_TokenCheck.j0 k a2 bt434.1 true) else (if 0 < (bt434.1.length : Int) then (spec_TokenCheck.j0 k a2 bt434.1 (decide ((rd bt434.1 0) ≥ 128))) else (none)))) else (spec_TokenCheck.j0 k a2 bt434.1 true)))) else (some ((([] : List Int)), 1)))) = some (r1, r2) := h
  clear h
  replace H := Option.bind_eq_some_iff.mp H
  obtain ⟨t418, A50, H⟩ := H
  replace H : (if t418 = true then ((spec_KeysOf.f k l0).bind fun bt422 => ((spec_OpenSealed.f k bt422.1 bt422.2.1 bt422.2.2.1 bt422.2.2.2 0 l1 l3).bind fun bt434 => (if bt434.2 = 0 then (if (bt434.1.length : Int) < 8 then (spec_TokenCheck.j0 k a2 bt434.1 true) else (if (bt434.1.length : Int) > 16 then (spec_TokenCheck.j0 k a2 bt434.1 true) else (if 0 < (bt434.1.length : Int) then (spec_TokenCheck.j0 k a2 bt434.1 (decide ((rd bt434.1 0) ≥ 128))) else (none)))) else (spec_TokenCheck.j0 k a2 bt434.1 true)))) else (some ((([] : List Int)), 1))) = some (r1, r2) := H
  have A5 := Aside0.mk A50
  clear A50
  by_cases c6 : t418 = true
  · subst c6
    have H1 : ((spec_KeysOf.f k l0).bind fun bt422 => ((spec_OpenSealed.f k bt422.1 bt422.2.1 bt422.2.2.1 bt422.2.2.2 0 l1 l3).bind fun bt434 => (if bt434.2 = 0 then (if (bt434.1.length : Int) < 8 then (spec_TokenCheck.j0 k a2 bt434.1 true) else (if (bt434.1.length : Int) > 16 then (spec_TokenCheck.j0 k a2 bt434.1 true) else (if 0 < (bt434.1.length : Int) then (spec_TokenCheck.j0 k a2 bt434.1 (decide ((rd bt434.1 0) ≥ 128))) else (none)))) else (spec_TokenCheck.j0 k a2 bt434.1 true)))) = some (r1, r2) := by rw [if_pos rfl] at H; exact H
    clear H
    have H := H1
    clear H1
    replace H := Option.bind_eq_some_iff.mp H
    obtain ⟨⟨t422, t425, t428, t431⟩, A70, H⟩ := H
    replace H : ((spec_OpenSealed.f k t422 t425 t428 t431 0 l1 l3).bind fun bt434 => (if bt434.2 = 0 then (if (bt434.1.length : Int) < 8 then (spec_TokenCheck.j0 k a2 bt434.1 true) else (if (bt434.1.length : Int) > 16 then (spec_TokenCheck.j0 k a2 bt434.1 true) else (if 0 < (bt434.1.length : Int) then (spec_TokenCheck.j0 k a2 bt434.1 (decide ((rd bt434.1 0) ≥ 128))) else (none)))) else (spec_TokenCheck.j0 k a2 bt434.1 true))) = some (r1, r2) := H
    have A7 := Aside0.mk A70
    clear A70
    replace H := Option.bind_eq_some_iff.mp H
    obtain ⟨⟨t434, t437⟩, A80, H⟩ := H
    replace H : (if t437 = 0 then (if (t434.length : Int) < 8 then (spec_TokenCheck.j0 k a2 t434 true) else (if (t434.length : Int) > 16 then (spec_TokenCheck.j0 k a2 t434 true) else (if 0 < (t434.length : Int) then (spec_TokenCheck.j0 k a2 t434 (decide ((rd t434 0) ≥ 128))) else (none)))) else (spec_TokenCheck.j0 k a2 t434 true)) = some (r1, r2) := H
    have A8 := Aside0.mk A80
    clear A80
    have HC9 := Aside0.mk H
    clear H
    go_enter Try.func25, Try.ntmps25
    go_upto_region 4 with (first | ((with_reducible refine gate_callee (f := 75) rfl ?_); refine goesL_ (some 16) rfl rfl Try.func75 (by kernel_rfl) rfl #[.slice A0 l0.length c0, .slice A1 l1.length c1, .int .i64 a2] rfl (by (try simp only [List.map_toArray, List.map_cons, List.map_nil]); first | done | rfl | (simp only [List.length_drop, List.length_take]; rfl)) ?_; (with_reducible refine (spec_l11TokenArgs.calls _ _ l0 _ _ l1 a2 true _ ?side1 ?side2 ?side3 ?side4 A5.out).mono ?_); (case side1 => repeat (first | exact HR0.out | (with_reducible refine Kd.C_alloc ?_ _) | (with_reducible refine Kd.C_drewN ?_ _) | (with_reducible refine Kd.C_drew ?_))); (case side2 => exact HC0.out); (case side3 => repeat (first | exact HR1.out | (with_reducible refine Kd.C_alloc ?_ _) | (with_reducible refine Kd.C_drewN ?_ _) | (with_reducible refine Kd.C_drew ?_))); (case side4 => exact HC1.out); rintro e w' ⟨rfl, ⟨nd, rfl⟩⟩; refine ⟨_, rfl, ?_⟩) | ((with_reducible refine gate_callee (f := 68) rfl ?_); refine goesL_ (some 21) rfl rfl Try.func68 (by kernel_rfl) rfl #[.slice A0 l0.length c0] rfl (by (try simp only [List.map_toArray, List.map_cons, List.map_nil]); first | done | rfl | (simp only [List.length_drop, List.length_take]; rfl)) ?_; (with_reducible refine (spec_KeysOf.calls k _ _ l0 t422 t425 t428 t431 _ ?side1 ?side2 A7.out).mono ?_); (case side1 => repeat (first | exact HR0.out | (with_reducible refine Kd.C_alloc ?_ _) | (with_reducible refine Kd.C_drewN ?_ _) | (with_reducible refine Kd.C_drew ?_))); (case side2 => exact HC0.out); rintro e w10 ⟨v423, v426, v429, v432, rfl, ho0, ho1, ho2, ho3, hb⟩; refine ⟨_, rfl, ?_⟩; have n0_ := Aside0.mk (Kd.R_lower ho0 (below_size (hq HB.out))); have n1_ := Aside0.mk (Kd.R_lower ho1 (below_size (hq HB.out))); have n2_ := Aside0.mk (Kd.R_lower ho2 (below_size (hq HB.out))); have n3_ := Aside0.mk (Kd.R_lower ho3 (below_size (hq HB.out))); have n4_ := Aside0.mk (below_step (hq HB.out) hb); clear HB; have HO424 := n0_; have HO427 := n1_; have HO430 := n2_; have HO433 := n3_; have HB := n4_; clear n0_ n1_ n2_ n3_ n4_; (try clear hb); (try clear hb2); (try clear hk); (try clear hi); (try clear ho0); (try clear ho1); (try clear ho2); (try clear ho3); obtain ⟨Ao11, co11, eo11⟩ := Kd.R_slice HO424.out; subst eo11; obtain ⟨Ao12, co12, eo12⟩ := Kd.R_slice HO427.out; subst eo12; obtain ⟨Ao13, co13, eo13⟩ := Kd.R_slice HO430.out; subst eo13; obtain ⟨Ao14, co14, eo14⟩ := Kd.R_slice HO433.out; subst eo14) | ((with_reducible refine gate_callee (f := 34) rfl ?_); refine goesL_ (some 24) rfl rfl Try.func34 (by kernel_rfl) rfl #[.agg #[.slice Ao11 t422.length co11, .slice Ao12 t425.length co12, .slice Ao13 t428.length co13, .slice Ao14 t431.length co14], .int .i64 0, .slice A1 l1.length c1, .slice A3 l3.length c3] rfl (by (try simp only [List.map_toArray, List.map_cons, List.map_nil]); first | done | rfl | (simp only [List.length_drop, List.length_take]; rfl)) ?_; (with_reducible refine (spec_OpenSealed.calls k _ _ t422 _ _ t425 _ _ t428 _ _ t431 0 _ _ l1 _ _ l3 t434 t437 _ ?side1 ?side2 ?side3 ?side4 ?side5 ?side6 ?side7 ?side8 ?side9 ?side10 ?side11 ?side12 A8.out).mono ?_); (case side1 => repeat (first | exact (Kd.R_reads' HO424.out).2.2 | (with_reducible refine Kd.C_alloc ?_ _) | (with_reducible refine Kd.C_drewN ?_ _) | (with_reducible refine Kd.C_drew ?_))); (case side2 => exact (Kd.R_reads' HO424.out).2.1); (case side3 => repeat (first | exact (Kd.R_reads' HO427.out).2.2 | (with_reducible refine Kd.C_alloc ?_ _) | (with_reducible refine Kd.C_drewN ?_ _) | (with_reducible refine Kd.C_drew ?_))); (case side4 => exact (Kd.R_reads' HO427.out).2.1); (case side5 => repeat (first | exact (Kd.R_reads' HO430.out).2.2 | (with_reducible refine Kd.C_alloc ?_ _) | (with_reducible refine Kd.C_drewN ?_ _) | (with_reducible refine Kd.C_drew ?_))); (case side6 => exact (Kd.R_reads' HO430.out).2.1); (case side7 => repeat (first | exact (Kd.R_reads' HO433.out).2.2 | (with_reducible refine Kd.C_alloc ?_ _) | (with_reducible refine Kd.C_drewN ?_ _) | (with_reducible refine Kd.C_drew ?_))); (case side8 => exact (Kd.R_reads' HO433.out).2.1); (case side9 => repeat (first | exact (Kd.C_below HR1.out HB.out) | (with_reducible refine Kd.C_alloc ?_ _) | (with_reducible refine Kd.C_drewN ?_ _) | (with_reducible refine Kd.C_drew ?_))); (case side10 => exact HC1.out); (case side11 => repeat (first | exact (Kd.C_below HR3.out HB.out) | (with_reducible refine Kd.C_alloc ?_ _) | (with_reducible refine Kd.C_drewN ?_ _) | (with_reducible refine Kd.C_drew ?_))); (case side12 => exact HC3.out); rintro e w15 ⟨v435, rfl, ho0, hb⟩; refine ⟨_, rfl, ?_⟩; have n0_ := Aside0.mk (Kd.R_elder' (rq HO424.out) (Kd.R_base ho0) hb); have n1_ := Aside0.mk (Kd.R_elder' (rq HO427.out) (Kd.R_base ho0) hb); have n2_ := Aside0.mk (Kd.R_elder' (rq HO430.out) (Kd.R_base ho0) hb); have n3_ := Aside0.mk (Kd.R_elder' (rq HO433.out) (Kd.R_base ho0) hb); have n4_ := Aside0.mk (Kd.R_lower (Kd.R_new' (Kd.R_new' (Kd.R_new' (Kd.R_new' ho0 (Kd.R_lt (rq HO424.out))) (Kd.R_lt (rq HO427.out))) (Kd.R_lt (rq HO430.out))) (Kd.R_lt (rq HO433.out))) (below_size (hq HB.out))); have n5_ := Aside0.mk (below_step (hq HB.out) hb); clear HO424; clear HO427; clear HO430; clear HO433; clear HB; have HO424 := n0_; have HO427 := n1_; have HO430 := n2_; have HO433 := n3_; have HO436 := n4_; have HB := n5_; clear n0_ n1_ n2_ n3_ n4_ n5_; (try clear hb); (try clear hb2); (try clear hk); (try clear hi); (try clear ho0)))
    (try simp only [Act.put, List.setIfInBounds_toArray, List.set_cons_zero, List.set_cons_succ])
    go_cut [44] (fun v44 wc => ∃ (kq : Nat) (x44_8 : Bool), v44 = .bool x44_8 ∧ Aside0 (spec_TokenCheck.j0 kq a2 t434 x44_8 = some (r1, r2)) ∧ Aside0 (kq ≤ k) ∧ Aside0 (Kd.R (Kd.int .u8) 5 wc w.heap.size (fun _ => True) v435 t434) ∧ Aside0 (Below w.heap.size w wc))
    case first =>
      have H := HC9.out
      clear HC9
      by_cases c16 : t437 = 0
      · rw [if_pos c16] at H
        have c16b0 : (t437 == 0) = true := beq_iff_eq.mpr c16
        have c16b1 : (t437 != 0) = false := bne_eq_false_iff_eq.mpr c16
        clear c16
        (first | rw [c16b0] | (simp only [i64_w, i32_w]; rw [c16b0]) | skip)
        by_cases c17 : (t434.length : Int) < 8
        · rw [if_pos c17] at H
          have c17b0 : decide ((t434.length : Int) < 8) = true := decide_eq_true c17
          have c17b1 : decide (t434.length < 8) = true := decide_eq_true (by omega)
          clear c17
          have H' := Aside0.mk H
          clear H
          obtain ⟨Ao18, co18, eo18⟩ := Kd.R_slice HO436.out
          subst eo18
          go_wp2
          go_meet
          case rel => exact ⟨_, (true), (by first | rfl | (simp; done) | (simp [*]; done)), H', ⟨by first | omega | exact Nat.le_refl _⟩, ⟨by (with_reducible repeat (first | apply Kd.R_alloc | apply Kd.R_drewN | apply Kd.R_drew)); exact Kd.R_mono HO436.out (fun _ hk => trivial)⟩, ⟨by repeat (first | (with_reducible first | exact HB.out | apply below_alloc | apply pw_below_drewN | apply below_drew1) | exact HB.out)⟩⟩
        · rw [if_neg c17] at H
          have c17b0 : decide ((t434.length : Int) < 8) = false := decide_eq_false c17
          have c17b1 : decide (t434.length < 8) = false := decide_eq_false (by omega)
          clear c17
          by_cases c19 : (t434.length : Int) > 16
          · rw [if_pos c19] at H
            have c19b0 : decide (16 < (t434.length : Int)) = true := decide_eq_true c19
            have c19b1 : decide (16 < t434.length) = true := decide_eq_true (by omega)
            clear c19
            have H' := Aside0.mk H
            clear H
            obtain ⟨Ao20, co20, eo20⟩ := Kd.R_slice HO436.out
            subst eo20
            go_wp2
            go_meet
            case rel => exact ⟨_, (true), (by first | rfl | (simp; done) | (simp [*]; done)), H', ⟨by first | omega | exact Nat.le_refl _⟩, ⟨by (with_reducible repeat (first | apply Kd.R_alloc | apply Kd.R_drewN | apply Kd.R_drew)); exact Kd.R_mono HO436.out (fun _ hk => trivial)⟩, ⟨by repeat (first | (with_reducible first | exact HB.out | apply below_alloc | apply pw_below_drewN | apply below_drew1) | exact HB.out)⟩⟩
          · rw [if_neg c19] at H
            have c19b0 : decide (16 < (t434.length : Int)) = false := decide_eq_false c19
            have c19b1 : decide (16 < t434.length) = false := decide_eq_false (by omega)
            clear c19
            by_cases c21 : 0 < (t434.length : Int)
            · rw [if_pos c21] at H
              have c21b0 : decide (0 < (t434.length : Int)) = true := decide_eq_true c21
              have c21b1 : decide (0 < t434.length) = true := decide_eq_true (by omega)
              clear c21
              have H' := Aside0.mk H
              clear H
              obtain ⟨Ao22, co22, eo22⟩ := Kd.R_slice HO436.out
              subst eo22
              have p438 : 0 ≤ (0 : Int) := (by omega)
              have q438 : 0 < (t434.length : Int) := of_decide_eq_true (by first | (with_reducible assumption) | assumption)
              obtain ⟨ad438, e438, hx438_0⟩ := Kd.at_int (Kd.R_reads' HO436.out).2.2 0 p438 q438
              cases e438
              have qi438 : (0 < t434.length) = True := eq_true (by omega)
              (try rw [show ((0 : Int)).toNat = 0 from rfl] at hx438_0)
              (try rw [Addr.add_zero'] at hx438_0)
              replace p438 := eq_true p438
              replace q438 := eq_true q438
              go_wp2
              go_meet
              case rel => exact ⟨_, (decide ((rd t434 0) ≥ 128)), (by first | rfl | (simp; done) | (simp [*]; done)), H', ⟨by first | omega | exact Nat.le_refl _⟩, ⟨by (with_reducible repeat (first | apply Kd.R_alloc | apply Kd.R_drewN | apply Kd.R_drew)); exact Kd.R_mono HO436.out (fun _ hk => trivial)⟩, ⟨by repeat (first | (with_reducible first | exact HB.out | apply below_alloc | apply pw_below_drewN | apply below_drew1) | exact HB.out)⟩⟩
            · rw [if_neg c21] at H
              exact absurd H (by simp)
      · rw [if_neg c16] at H
        have c16b0 : (t437 == 0) = false := beq_eq_false_iff_ne.mpr c16
        have c16b1 : (t437 != 0) = true := bne_iff_ne.mpr c16
        (first | rw [c16b0] | (simp only [i64_w, i32_w]; rw [c16b0]) | skip)
        have H' := Aside0.mk H
        clear H
        go_wp2
        go_meet
        case rel => exact ⟨_, (true), (by first | rfl | (simp; done) | (simp [*]; done)), H', ⟨by first | omega | exact Nat.le_refl _⟩, ⟨by (with_reducible repeat (first | apply Kd.R_alloc | apply Kd.R_drewN | apply Kd.R_drew)); exact Kd.R_mono HO436.out (fun _ hk => trivial)⟩, ⟨by repeat (first | (with_reducible first | exact HB.out | apply below_alloc | apply pw_below_drewN | apply below_drew1) | exact HB.out)⟩⟩
    case rest =>
      clear HC9
      try clear c1
      try clear c2
      try clear p2
      try clear c3
      try clear p4
      try clear q4
      try clear hx4
      try clear qi4
      try clear c6
      try clear c7
      try clear c16
      try clear c16b0
      try clear c16b1
      try clear c17
      try clear c17b0
      try clear c17b1
      try clear c19
      try clear c19b0
      try clear c19b1
      try clear c21
      try clear c21b0
      try clear c21b1
      try clear hx438_0
      try clear p438
      try clear q438
      obtain ⟨kq, x44_8, rfl, HA, HJ8, HO_10, HB⟩ := hcut
      cases kq with
      | zero => exact absurd HA.out (by simp [spec_TokenCheck.j0])
      | succ kj8 =>
        have H := HA.out
        clear HA
        simp only [spec_TokenCheck.j0] at H
        by_cases c23 : x44_8 = true
        · subst c23
          have H1 : (some ((([] : List Int)), 13)) = some (r1, r2) := by rw [if_pos rfl] at H; exact H
          clear H
          have H := H1
          clear H1
          obtain ⟨y439, hy439⟩ : ∃ y_ : List Int, y_ = (([] : List Int)) := ⟨_, rfl⟩
          replace H : (some (y439, 13)) = some (r1, r2) := by first | (rw [hy439]; with_reducible exact H) | (have H2_ := (Option.bind_some _ _).symm.trans H; rw [hy439]; with_reducible exact H2_) | (have H2_ := (Option.bind_some _ _).symm.trans H; with_reducible exact H2_) | with_reducible exact H | (rw [hy439]; exact H) | exact H
          have Ny439 := Aside0.mk hy439
          clear hy439
          simp only [Option.some.injEq, Prod.mk.injEq] at H
          obtain ⟨rfl, rfl⟩ := H
          go_wp2_with (first | ((with_reducible refine gate_dst (N := 45) rfl ?_); (try (refine gate_guard (by rfl) ?_; dsimp only)); refine Kd.R_lit (Kd.int .u8) _ 5 ?hg (N := 45) ?hd (xs := ([] : List Int)) (inner := []) (ok := fun _ => True) (okp := fun _ => True) ?hr ?hp (fun _ hk => hk) trivial (Below.refl _ _) (Nat.le_refl _) (by simp) ?_; (case hd => rfl); (case hg => rfl); (case hr => first | (go_simp; done) | (go_simp; rfl)); (case hp => exact (Reps.none _ _)); intro v440 w24 ho25 hb hg_ hnew_; clear hg_ hnew_; (first | rw [← Ny439.out] at ho25 | (simp only [Int.reduceToNat] at ho25; rw [← Ny439.out] at ho25)); have n0_ := Aside0.mk (Kd.R_elder' (rq HO_10.out) (Kd.R_base ho25) hb); have n1_ := Aside0.mk (Kd.R_lower (Kd.R_new' ho25 (Kd.R_lt (rq HO_10.out))) (below_size (hq HB.out))); have n2_ := Aside0.mk (below_step (hq HB.out) hb); clear HO_10; clear HB; have HO_10 := n0_; have HO441 := n1_; have HB := n2_; clear n0_ n1_ n2_; clear hb ho25))
          go_ret2
          exact ⟨_, by first | rfl | (simp [errW_none, errW_some] <;> rfl) | (simp [*, errW_none, errW_some] <;> rfl), by (with_reducible repeat (first | apply Kd.R_alloc | apply Kd.R_drewN | apply Kd.R_drew)); exact Kd.R_mono HO441.out (fun _ hk => trivial), by repeat (first | (with_reducible first | exact HB.out | apply below_alloc | apply pw_below_drewN | apply below_drew1) | exact HB.out)⟩
        · replace c23 := Bool.eq_false_iff.mpr c23
          subst c23
          have H1 : (if 8 ≤ (t434.length : Int) then ((spec_l01Value.f kj8 (t434.take 8)).bind fun t446 => (if t446 > a2 then (some ((([] : List Int)), 13)) else (if (wrap64 (a2 - t446)) > 60000000 then (some ((([] : List Int)), 13)) else ((spec_l03Copy.f (t434.drop 8)).bind fun t457 => (some (t457, 0)))))) else (none)) = some (r1, r2) := by rw [if_neg (show ¬ (false = true) by decide)] at H; exact H
          clear H
          have H := H1
          clear H1
          by_cases c26 : 8 ≤ (t434.length : Int)
          · rw [if_pos c26] at H
            have c26b0 := eq_true c26
            have c26b1 : decide (8 ≤ (t434.length : Int)) = true := decide_eq_true c26
            clear c26
            obtain ⟨y442, hy442⟩ : ∃ y_ : List Int, y_ = (t434.take 8) := ⟨_, rfl⟩
            replace H : ((spec_l01Value.f kj8 y442).bind fun t446 => (if t446 > a2 then (some ((([] : List Int)), 13)) else (if (wrap64 (a2 - t446)) > 60000000 then (some ((([] : List Int)), 13)) else ((spec_l03Copy.f (t434.drop 8)).bind fun t457 => (some (t457, 0)))))) = some (r1, r2) := by first | (rw [hy442]; with_reducible exact H) | (have H2_ := (Option.bind_some _ _).symm.trans H; rw [hy442]; with_reducible exact H2_) | (have H2_ := (Option.bind_some _ _).symm.trans H; with_reducible exact H2_) | with_reducible exact H | (rw [hy442]; exact H) | exact H
            have Ny442 := Aside0.mk hy442
            clear hy442
            replace H := Option.bind_eq_some_iff.mp H
            obtain ⟨t446, A270, H⟩ := H
            replace H : (if t446 > a2 then (some ((([] : List Int)), 13)) else (if (wrap64 (a2 - t446)) > 60000000 then (some ((([] : List Int)), 13)) else ((spec_l03Copy.f (t434.drop 8)).bind fun t457 => (some (t457, 0))))) = some (r1, r2) := H
            have A27 := Aside0.mk A270
            clear A270
            by_cases c28 : t446 > a2
            · rw [if_pos c28] at H
              have c28b0 : decide (a2 < t446) = true := decide_eq_true c28
              clear c28
              obtain ⟨y447, hy447⟩ : ∃ y_ : List Int, y_ = (([] : List Int)) := ⟨_, rfl⟩
              replace H : (some (y447, 13)) = some (r1, r2) := by first | (rw [hy447]; with_reducible exact H) | (have H2_ := (Option.bind_some _ _).symm.trans H; rw [hy447]; with_reducible exact H2_) | (have H2_ := (Option.bind_some _ _).symm.trans H; with_reducible exact H2_) | with_reducible exact H | (rw [hy447]; exact H) | exact H
              have Ny447 := Aside0.mk hy447
              clear hy447
              simp only [Option.some.injEq, Prod.mk.injEq] at H
              obtain ⟨rfl, rfl⟩ := H
              obtain ⟨Ao30, co30, eo30⟩ := Kd.R_slice HO_10.out
              subst eo30
              have q29 : (8 : Int) ≤ ((t434.length : Int) : Int) := of_decide_eq_true (by first | (with_reducible assumption) | assumption)
              obtain ⟨i029, hi029, _, hsz29, _⟩ := info_parts info5
              have hroom29 : t434.length ≤ co30 := (Kd.R_reads' HO_10.out).2.1
              have hC29 : Kd.C (Kd.int .u8) _ Ao30 t434.length t434 := (Kd.R_reads' HO_10.out).2.2
              have hcut29 := cut_to (P := Try.prog) 22 5 .i64 Try.underlying22 hi029 Ao30 t434.length co30 8 (by omega) q29 hroom29
              have hr29 := Kd.C_take (m := 8) hC29 (by omega)
              have hy29 : y442.length = (8 : Int).toNat := (by rw [Ny442.out, List.length_take]; omega)
              rw [← Ny442.out] at hr29
              rw [← hy29] at hcut29
              have HR445 := Aside0.mk hr29
              have HC445 := Aside0.mk (show y442.length ≤ co30 from by omega)
              clear hr29 hC29 hroom29 hi029 hsz29
              have KY29 := Aside0.mk hy29
              clear hy29
              have KL29 := Aside0.mk (show 8 ≤ t434.length from by omega)
              replace q29 := eq_true q29
              go_wp2_with (first | ((with_reducible refine gate_callee (f := 77) rfl ?_); refine goesL_ (some 48) rfl rfl Try.func77 (by kernel_rfl) rfl #[.slice Ao30 y442.length co30] rfl (by (try simp only [List.map_toArray, List.map_cons, List.map_nil]); first | done | rfl | (simp only [List.length_drop, List.length_take]; rfl)) ?_; (with_reducible refine (spec_l01Value.calls kj8 _ _ y442 t446 _ ?side1 ?side2 A27.out).mono ?_); (case side1 => repeat (first | exact (by repeat (first | (with_reducible exact HR445.out) | (with_reducible refine Kd.C_alloc ?_ _) | (with_reducible refine Kd.C_drewN ?_ _) | (with_reducible refine Kd.C_drew ?_) | exact HR445.out)) | (with_reducible refine Kd.C_alloc ?_ _) | (with_reducible refine Kd.C_drewN ?_ _) | (with_reducible refine Kd.C_drew ?_))); (case side2 => exact HC445.out); rintro e w' ⟨rfl, ⟨nd, rfl⟩⟩; refine ⟨_, rfl, ?_⟩) | ((with_reducible refine gate_dst (N := 58) rfl ?_); (try (refine gate_guard (by rfl) ?_; dsimp only)); refine Kd.R_lit (Kd.int .u8) _ 5 ?hg (N := 58) ?hd (xs := ([] : List Int)) (inner := []) (ok := fun _ => True) (okp := fun _ => True) ?hr ?hp (fun _ hk => hk) trivial (Below.refl _ _) (Nat.le_refl _) (by simp) ?_; (case hd => rfl); (case hg => rfl); (case hr => first | (go_simp; done) | (go_simp; rfl)); (case hp => exact (Reps.none _ _)); intro v448 w31 ho32 hb hg_ hnew_; clear hg_ hnew_; (first | rw [← Ny447.out] at ho32 | (simp only [Int.reduceToNat] at ho32; rw [← Ny447.out] at ho32)); have n0_ := Aside0.mk (Kd.R_elder' (rq HO_10.out) (Kd.R_base ho32) hb); have n1_ := Aside0.mk (Kd.R_lower (Kd.R_new' ho32 (Kd.R_lt (rq HO_10.out))) (below_size (hq HB.out))); have n2_ := Aside0.mk (Kd.C_below (by repeat (first | (with_reducible exact HR445.out) | (with_reducible refine Kd.C_alloc ?_ _) | (with_reducible refine Kd.C_drewN ?_ _) | (with_reducible refine Kd.C_drew ?_) | exact HR445.out)) hb); have n3_ := Aside0.mk (below_step (hq HB.out) hb); clear HO_10; clear HR445; clear HB; have HO_10 := n0_; have HO449 := n1_; have HR445 := n2_; have HB := n3_; clear n0_ n1_ n2_ n3_; clear hb ho32))
              go_ret2
              exact ⟨_, by first | rfl | (simp [errW_none, errW_some] <;> rfl) | (simp [*, errW_none, errW_some] <;> rfl), by (with_reducible repeat (first | apply Kd.R_alloc | apply Kd.R_drewN | apply Kd.R_drew)); exact Kd.R_mono HO449.out (fun _ hk => trivial), by repeat (first | (with_reducible first | exact HB.out | apply below_alloc | apply pw_below_drewN | apply below_drew1) | exact HB.out)⟩
            · rw [if_neg c28] at H
              have c28b0 : decide (a2 < t446) = false := decide_eq_false c28
              clear c28
              by_cases c33 : (wrap64 (a2 - t446)) > 60000000
              · rw [if_pos c33] at H
                have c33b0 : decide (60000000 < (wrap64 (a2 - t446))) = true := decide_eq_true c33
                clear c33
                obtain ⟨y450, hy450⟩ : ∃ y_ : List Int, y_ = (([] : List Int)) := ⟨_, rfl⟩
                replace H : (some (y450, 13)) = some (r1, r2) := by first | (rw [hy450]; with_reducible exact H) | (have H2_ := (Option.bind_some _ _).symm.trans H; rw [hy450]; with_reducible exact H2_) | (have H2_ := (Option.bind_some _ _).symm.trans H; with_reducible exact H2_) | with_reducible exact H | (rw [hy450]; exact H) | exact H
                have Ny450 := Aside0.mk hy450
                clear hy450
                simp only [Option.some.injEq, Prod.mk.injEq] at H
                obtain ⟨rfl, rfl⟩ := H
                obtain ⟨Ao35, co35, eo35⟩ := Kd.R_slice HO_10.out
                subst eo35
                have q34 : (8 : Int) ≤ ((t434.length : Int) : Int) := of_decide_eq_true (by first | (with_reducible assumption) | assumption)
                obtain ⟨i034, hi034, _, hsz34, _⟩ := info_parts info5
                have hroom34 : t434.length ≤ co35 := (Kd.R_reads' HO_10.out).2.1
                have hC34 : Kd.C (Kd.int .u8) _ Ao35 t434.length t434 := (Kd.R_reads' HO_10.out).2.2
                have hcut34 := cut_to (P := Try.prog) 22 5 .i64 Try.underlying22 hi034 Ao35 t434.length co35 8 (by omega) q34 hroom34
                have hr34 := Kd.C_take (m := 8) hC34 (by omega)
                have hy34 : y442.length = (8 : Int).toNat := (by rw [Ny442.out, List.length_take]; omega)
                rw [← Ny442.out] at hr34
                rw [← hy34] at hcut34
                have HR445 := Aside0.mk hr34
                have HC445 := Aside0.mk (show y442.length ≤ co35 from by omega)
                clear hr34 hC34 hroom34 hi034 hsz34
                have KY34 := Aside0.mk hy34
                clear hy34
                have KL34 := Aside0.mk (show 8 ≤ t434.length from by omega)
                replace q34 := eq_true q34
                go_wp2_with (first | ((with_reducible refine gate_callee (f := 77) rfl ?_); refine goesL_ (some 48) rfl rfl Try.func77 (by kernel_rfl) rfl #[.slice Ao35 y442.length co35] rfl (by (try simp only [List.map_toArray, List.map_cons, List.map_nil]); first | done | rfl | (simp only [List.length_drop, List.length_take]; rfl)) ?_; (with_reducible refine (spec_l01Value.calls kj8 _ _ y442 t446 _ ?side1 ?side2 A27.out).mono ?_); (case side1 => repeat (first | exact (by repeat (first | (with_reducible exact HR445.out) | (with_reducible refine Kd.C_alloc ?_ _) | (with_reducible refine Kd.C_drewN ?_ _) | (with_reducible refine Kd.C_drew ?_) | exact HR445.out)) | (with_reducible refine Kd.C_alloc ?_ _) | (with_reducible refine Kd.C_drewN ?_ _) | (with_reducible refine Kd.C_drew ?_))); (case side2 => exact HC445.out); rintro e w' ⟨rfl, ⟨nd, rfl⟩⟩; refine ⟨_, rfl, ?_⟩) | ((with_reducible refine gate_dst (N := 58) rfl ?_); (try (refine gate_guard (by rfl) ?_; dsimp only)); refine Kd.R_lit (Kd.int .u8) _ 5 ?hg (N := 58) ?hd (xs := ([] : List Int)) (inner := []) (ok := fun _ => True) (okp := fun _ => True) ?hr ?hp (fun _ hk => hk) trivial (Below.refl _ _) (Nat.le_refl _) (by simp) ?_; (case hd => rfl); (case hg => rfl); (case hr => first | (go_simp; done) | (go_simp; rfl)); (case hp => exact (Reps.none _ _)); intro v451 w36 ho37 hb hg_ hnew_; clear hg_ hnew_; (first | rw [← Ny450.out] at ho37 | (simp only [Int.reduceToNat] at ho37; rw [← Ny450.out] at ho37)); have n0_ := Aside0.mk (Kd.R_elder' (rq HO_10.out) (Kd.R_base ho37) hb); have n1_ := Aside0.mk (Kd.R_lower (Kd.R_new' ho37 (Kd.R_lt (rq HO_10.out))) (below_size (hq HB.out))); have n2_ := Aside0.mk (Kd.C_below (by repeat (first | (with_reducible exact HR445.out) | (with_reducible refine Kd.C_alloc ?_ _) | (with_reducible refine Kd.C_drewN ?_ _) | (with_reducible refine Kd.C_drew ?_) | exact HR445.out)) hb); have n3_ := Aside0.mk (below_step (hq HB.out) hb); clear HO_10; clear HR445; clear HB; have HO_10 := n0_; have HO452 := n1_; have HR445 := n2_; have HB := n3_; clear n0_ n1_ n2_ n3_; clear hb ho37))
                go_ret2
                exact ⟨_, by first | rfl | (simp [errW_none, errW_some] <;> rfl) | (simp [*, errW_none, errW_some] <;> rfl), by (with_reducible repeat (first | apply Kd.R_alloc | apply Kd.R_drewN | apply Kd.R_drew)); exact Kd.R_mono HO452.out (fun _ hk => trivial), by repeat (first | (with_reducible first | exact HB.out | apply below_alloc | apply pw_below_drewN | apply below_drew1) | exact HB.out)⟩
              · rw [if_neg c33] at H
                have c33b0 : decide (60000000 < (wrap64 (a2 - t446))) = false := decide_eq_false c33
                clear c33
                have c38b0 := eq_true (of_decide_eq_true (by first | (with_reducible assumption) | assumption) : 8 ≤ (t434.length : Int))
                obtain ⟨y453, hy453⟩ : ∃ y_ : List Int, y_ = (t434.drop 8) := ⟨_, rfl⟩
                replace H : ((spec_l03Copy.f y453).bind fun t457 => (some (t457, 0))) = some (r1, r2) := by first | (rw [hy453]; with_reducible exact H) | (have H2_ := (Option.bind_some _ _).symm.trans H; rw [hy453]; with_reducible exact H2_) | (have H2_ := (Option.bind_some _ _).symm.trans H; with_reducible exact H2_) | with_reducible exact H | (rw [hy453]; exact H) | exact H
                have Ny453 := Aside0.mk hy453
                clear hy453
                replace H := Option.bind_eq_some_iff.mp H
                obtain ⟨t457, A390, H⟩ := H
                replace H : (some (t457, 0)) = some (r1, r2) := H
                have A39 := Aside0.mk A390
                clear A390
                simp only [Option.some.injEq, Prod.mk.injEq] at H
                obtain ⟨rfl, rfl⟩ := H
                obtain ⟨Ao41, co41, eo41⟩ := Kd.R_slice HO_10.out
                subst eo41
                have q40 : (8 : Int) ≤ ((t434.length : Int) : Int) := of_decide_eq_true (by first | (with_reducible assumption) | assumption)
                obtain ⟨i040, hi040, _, hsz40, _⟩ := info_parts info5
                have hroom40 : t434.length ≤ co41 := (Kd.R_reads' HO_10.out).2.1
                have hC40 : Kd.C (Kd.int .u8) _ Ao41 t434.length t434 := (Kd.R_reads' HO_10.out).2.2
                have hcut40 := cut_to (P := Try.prog) 22 5 .i64 Try.underlying22 hi040 Ao41 t434.length co41 8 (by omega) q40 hroom40
                have hr40 := Kd.C_take (m := 8) hC40 (by omega)
                have hy40 : y442.length = (8 : Int).toNat := (by rw [Ny442.out, List.length_take]; omega)
                rw [← Ny442.out] at hr40
                rw [← hy40] at hcut40
                have HR445 := Aside0.mk hr40
                have HC445 := Aside0.mk (show y442.length ≤ co41 from by omega)
                clear hr40 hC40 hroom40 hi040 hsz40
                have KY40 := Aside0.mk hy40
                clear hy40
                have KL40 := Aside0.mk (show 8 ≤ t434.length from by omega)
                replace q40 := eq_true q40
                go_wp2_with (first | ((with_reducible refine gate_callee (f := 77) rfl ?_); refine goesL_ (some 48) rfl rfl Try.func77 (by kernel_rfl) rfl #[.slice Ao41 y442.length co41] rfl (by (try simp only [List.map_toArray, List.map_cons, List.map_nil]); first | done | rfl | (simp only [List.length_drop, List.length_take]; rfl)) ?_; (with_reducible refine (spec_l01Value.calls kj8 _ _ y442 t446 _ ?side1 ?side2 A27.out).mono ?_); (case side1 => repeat (first | exact (by repeat (first | (with_reducible exact HR445.out) | (with_reducible refine Kd.C_alloc ?_ _) | (with_reducible refine Kd.C_drewN ?_ _) | (with_reducible refine Kd.C_drew ?_) | exact HR445.out)) | (with_reducible refine Kd.C_alloc ?_ _) | (with_reducible refine Kd.C_drewN ?_ _) | (with_reducible refine Kd.C_drew ?_))); (case side2 => exact HC445.out); rintro e w' ⟨rfl, ⟨nd, rfl⟩⟩; refine ⟨_, rfl, ?_⟩; have q42 : (8 : Int) ≤ ((t434.length : Int) : Int) := of_decide_eq_true (by first | (with_reducible assumption) | assumption); obtain ⟨i042, hi042, _, hsz42, _⟩ := info_parts info5; have hroom42 : t434.length ≤ co41 := (Kd.R_reads' HO_10.out).2.1; have hC42 : Kd.C (Kd.int .u8) _ Ao41 t434.length t434 := (Kd.R_reads' HO_10.out).2.2; have hcut42 := cut_from (P := Try.prog) 22 5 .i64 Try.underlying22 hi042 1 hsz42 Ao41 t434.length co41 8 (by omega) q42; have hr42 := Kd.C_drop (m := (8 : Int).toNat) (c := co41) hC42 (by omega) hroom42; obtain ⟨A42, hA42⟩ : ∃ A1, A1 = (if co41 = (8 : Int).toNat then Ao41 else (Ao41 : Option Addr).map (·.add ((8 : Int).toNat * 1))) := ⟨_, rfl⟩; obtain ⟨c42, hc42⟩ : ∃ c1, c1 = co41 - (8 : Int).toNat := ⟨_, rfl⟩; have hy42 : y453.length = t434.length - (8 : Int).toNat := (by rw [Ny453.out, List.length_drop] <;> omega); rw [show (t434).drop (8 : Int).toNat = y453 from Ny453.out.symm] at hr42; replace hr42 : Kd.C (Kd.int .u8) _ A42 y453.length y453 := (by rw [hA42]; exact hr42); rw [← hy42, ← hA42, ← hc42] at hcut42; have HR456 := Aside0.mk hr42; have HC456 := Aside0.mk (show y453.length ≤ c42 from by rw [hy42, hc42]; exact Nat.sub_le_sub_right hroom42 _); clear hr42 hC42 hroom42 hi042 hsz42 hc42; have KY42 := Aside0.mk hy42; have KA42 := Aside0.mk hA42; clear hy42 hA42; have KL42 := Aside0.mk (show 8 ≤ t434.length from by omega); replace q42 := eq_true q42) | ((with_reducible refine gate_callee (f := 78) rfl ?_); refine goesL_ (some 61) rfl rfl Try.func78 (by kernel_rfl) rfl #[.slice A42 y453.length c42] rfl (by (try simp only [List.map_toArray, List.map_cons, List.map_nil]); first | done | rfl | (simp only [List.length_drop, List.length_take]; rfl)) ?_; (with_reducible refine (spec_l03Copy.calls _ _ y453 t457 _ ?side1 ?side2 A39.out).mono ?_); (case side1 => repeat (first | exact (by repeat (first | (with_reducible exact HR456.out) | (with_reducible refine Kd.C_alloc ?_ _) | (with_reducible refine Kd.C_drewN ?_ _) | (with_reducible refine Kd.C_drew ?_) | exact HR456.out)) | (with_reducible refine Kd.C_alloc ?_ _) | (with_reducible refine Kd.C_drewN ?_ _) | (with_reducible refine Kd.C_drew ?_))); (case side2 => exact HC456.out); rintro e w43 ⟨v458, rfl, ho0, hb⟩; refine ⟨_, rfl, ?_⟩; have n0_ := Aside0.mk (Kd.R_elder' (rq HO_10.out) (Kd.R_base ho0) hb); have n1_ := Aside0.mk (Kd.R_lower (Kd.R_new' ho0 (Kd.R_lt (rq HO_10.out))) (below_size (hq HB.out))); have n2_ := Aside0.mk (Kd.C_below (by repeat (first | (with_reducible exact HR445.out) | (with_reducible refine Kd.C_alloc ?_ _) | (with_reducible refine Kd.C_drewN ?_ _) | (with_reducible refine Kd.C_drew ?_) | exact HR445.out)) hb); have n3_ := Aside0.mk (Kd.C_below (by repeat (first | (with_reducible exact HR456.out) | (with_reducible refine Kd.C_alloc ?_ _) | (with_reducible refine Kd.C_drewN ?_ _) | (with_reducible refine Kd.C_drew ?_) | exact HR456.out)) hb); have n4_ := Aside0.mk (below_step (hq HB.out) hb); clear HO_10; clear HR445; clear HR456; clear HB; have HO_10 := n0_; have HO459 := n1_; have HR445 := n2_; have HR456 := n3_; have HB := n4_; clear n0_ n1_ n2_ n3_ n4_; (try clear hb); (try clear hb2); (try clear hk); (try clear hi); (try clear ho0)))
                go_ret2
                exact ⟨_, by first | rfl | (simp [errW_none, errW_some] <;> rfl) | (simp [*, errW_none, errW_some] <;> rfl), by (with_reducible repeat (first | apply Kd.R_alloc | apply Kd.R_drewN | apply Kd.R_drew)); exact Kd.R_mono HO459.out (fun _ hk => trivial), by repeat (first | (with_reducible first | exact HB.out | apply below_alloc | apply pw_below_drewN | apply below_drew1) | exact HB.out)⟩
          · rw [if_neg c26] at H
            exact absurd H (by simp)
  · replace c6 := Bool.eq_false_iff.mpr c6
    subst c6
    have H1 : (some ((([] : List Int)), 1)) = some (r1, r2) := by rw [if_neg (show ¬ (false = true) by decide)] at H; exact H
    clear H
    have H := H1
    clear H1
    obtain ⟨y419, hy419⟩ : ∃ y_ : List Int, y_ = (([] : List Int)) := ⟨_, rfl⟩
    replace H : (some (y419, 1)) = some (r1, r2) := by first | (rw [hy419]; with_reducible exact H) | (have H2_ := (Option.bind_some _ _).symm.trans H; rw [hy419]; with_reducible exact H2_) | (have H2_ := (Option.bind_some _ _).symm.trans H; with_reducible exact H2_) | with_reducible exact H | (rw [hy419]; exact H) | exact H
    have Ny419 := Aside0.mk hy419
    clear hy419
    simp only [Option.some.injEq, Prod.mk.injEq] at H
    obtain ⟨rfl, rfl⟩ := H
    go_enter Try.func25, Try.ntmps25
    go_wp2_with (first | ((with_reducible refine gate_callee (f := 75) rfl ?_); refine goesL_ (some 16) rfl rfl Try.func75 (by kernel_rfl) rfl #[.slice A0 l0.length c0, .slice A1 l1.length c1, .int .i64 a2] rfl (by (try simp only [List.map_toArray, List.map_cons, List.map_nil]); first | done | rfl | (simp only [List.length_drop, List.length_take]; rfl)) ?_; (with_reducible refine (spec_l11TokenArgs.calls _ _ l0 _ _ l1 a2 false _ ?side1 ?side2 ?side3 ?side4 A5.out).mono ?_); (case side1 => repeat (first | exact HR0.out | (with_reducible refine Kd.C_alloc ?_ _) | (with_reducible refine Kd.C_drewN ?_ _) | (with_reducible refine Kd.C_drew ?_))); (case side2 => exact HC0.out); (case side3 => repeat (first | exact HR1.out | (with_reducible refine Kd.C_alloc ?_ _) | (with_reducible refine Kd.C_drewN ?_ _) | (with_reducible refine Kd.C_drew ?_))); (case side4 => exact HC1.out); rintro e w' ⟨rfl, ⟨nd, rfl⟩⟩; refine ⟨_, rfl, ?_⟩) | ((with_reducible refine gate_dst (N := 18) rfl ?_); (try (refine gate_guard (by rfl) ?_; dsimp only)); refine Kd.R_lit (Kd.int .u8) _ 5 ?hg (N := 18) ?hd (xs := ([] : List Int)) (inner := []) (ok := fun _ => True) (okp := fun _ => True) ?hr ?hp (fun _ hk => hk) trivial (Below.refl _ _) (Nat.le_refl _) (by simp) ?_; (case hd => rfl); (case hg => rfl); (case hr => first | (go_simp; done) | (go_simp; rfl)); (case hp => exact (Reps.none _ _)); intro v420 w44 ho45 hb hg_ hnew_; clear hg_ hnew_; (first | rw [← Ny419.out] at ho45 | (simp only [Int.reduceToNat] at ho45; rw [← Ny419.out] at ho45)); have n0_ := Aside0.mk (Kd.R_lower ho45 (below_size (hq HB.out))); have n1_ := Aside0.mk (below_step (hq HB.out) hb); clear HB; have HO421 := n0_; have HB := n1_; clear n0_ n1_; clear hb ho45))
    go_ret2
    exact ⟨_, by first | rfl | (simp [errW_none, errW_some] <;> rfl) | (simp [*, errW_none, errW_some] <;> rfl), by (with_reducible repeat (first | apply Kd.R_alloc | apply Kd.R_drewN | apply Kd.R_drew)); exact HO421.out, by repeat (first | (with_reducible first | exact HB.out | apply below_alloc | apply pw_below_drewN | apply below_drew1) | exact HB.out)⟩

end Go.Proofs.Ytolpikjbdfpdcaa.PFnTokens
