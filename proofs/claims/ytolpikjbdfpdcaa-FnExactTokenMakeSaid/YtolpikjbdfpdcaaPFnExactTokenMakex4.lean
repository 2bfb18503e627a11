-- Written by a program of this repo (xprint.py) out of the translation; Lean checks it.
import Derived.Test.YtolpikjbdfpdcaaPFnExactTokenMakex0
import Derived.Test.YtolpikjbdfpdcaaPFnExactTokenMakex1
import Derived.Test.YtolpikjbdfpdcaaPFnExactTokenMakex2
import Derived.Test.YtolpikjbdfpdcaaPFnExactTokenMakex3
namespace Go.Proofs.Ytolpikjbdfpdcaa.PFnExactTokenMake
open Go.RowKit Go.Proofs.YtolpikjbdfpdcaaW.PrintWords Go.Proofs.YtolpikjbdfpdcaaW.PrintLast Go.Proofs.YtolpikjbdfpdcaaW.PrintMore
attribute [local go_sem] max2_int min2_int max_two min_two max_three min_three max_four min_four   -- for this text's walks alone
set_option linter.unusedVariables false
set_option linter.unusedSimpArgs false

/-! ### spec_Seal: function 28 -/
def spec_Seal.j0 : Nat → Int → List Int → List Int → Bool → List Int → List Int → List Int → List Int → Option (List Int × Int)
  | 0, _, _, _, _, _, _, _, _ => none
  | k + 1, x1, x2, x3, x22, x235000, x235001, x235002, x235003 => if x22 = true then (some ((([] : List Int)), 1)) else (if (wrap64 ((x2.length : Int) + (x3.length : Int))) > 1500 then (some ((([] : List Int)), 4)) else ((spec_l01Digits.f k x1 8).bind fun t242 => ((spec_l03Xor.f k x235002 t242).bind fun t245 => ((spec_l03Stream.f k x235000 x235001 x235002 x235003 t245 (x3.length : Int)).bind fun t248 => ((spec_l03Xor.f k x3 t248).bind fun t251 => ((spec_l03Tag.f k x235000 x235001 x235002 x235003 t245 x2 t251).bind fun t254 => (if t251.length + t254.length < 140737488355328 then (some ((t251 ++ t254), 0)) else (none))))))))
def spec_Seal.f (k : Nat) (l0_0 : List Int) (l0_1 : List Int) (l0_2 : List Int) (l0_3 : List Int) (a1 : Int) (l2 : List Int) (l3 : List Int) : Option (List Int × Int) := (spec_l03KeysOK.f l0_0 l0_1 l0_2 l0_3).bind fun t235 => (if t235 = true then (if a1 < 0 then (spec_Seal.j0 k a1 l2 l3 true l0_0 l0_1 l0_2 l0_3) else (spec_Seal.j0 k a1 l2 l3 (decide (a1 > 4611686018427387903)) l0_0 l0_1 l0_2 l0_3)) else (spec_Seal.j0 k a1 l2 l3 true l0_0 l0_1 l0_2 l0_3))
theorem spec_Seal.mono_l : ∀ k, (∀ y0 y1 y2 y3 y4 y5 y6 y7, LeO (spec_Seal.j0 k y0 y1 y2 y3 y4 y5 y6 y7) (spec_Seal.j0 (k + 1) y0 y1 y2 y3 y4 y5 y6 y7))
  | 0 => fun _ _ _ _ _ _ _ _ r h => by simp [spec_Seal.j0] at h
  | k + 1 => by
    have ih0 := spec_Seal.mono_l k
    · intro y0 y1 y2 y3 y4 y5 y6 y7
      unfold spec_Seal.j0
      repeat' first
      | (with_reducible exact ih0 _ _ _ _ _ _ _ _)
      | (with_reducible exact spec_l01Digits.mono _ _ _)
      | (with_reducible exact spec_l03Stream.mono _ _ _ _ _ _ _)
      | (with_reducible exact spec_l03Tag.mono _ _ _ _ _ _ _ _)
      | (with_reducible exact spec_l03Xor.mono _ _ _)
      | (with_reducible exact LeO.refl _)
      | (with_reducible exact LeO.none _)
      | (with_reducible refine LeO.ite ?_ ?_)
      | (with_reducible refine LeO.bind ?_ (fun _ => ?_))
      | exact ih0 _ _ _ _ _ _ _ _
      | exact spec_l01Digits.mono _ _ _
      | exact spec_l03Stream.mono _ _ _ _ _ _ _
      | exact spec_l03Tag.mono _ _ _ _ _ _ _ _
      | exact spec_l03Xor.mono _ _ _
      | exact LeO.none _
      | refine LeO.ite ?_ ?_
      | refine LeO.bind ?_ (fun _ => ?_)
theorem spec_Seal.mono : ∀ a0 a1 a2 a3 a4 a5 a6 k, LeO (spec_Seal.f k a0 a1 a2 a3 a4 a5 a6) (spec_Seal.f (k + 1) a0 a1 a2 a3 a4 a5 a6) := by
  intro a0 a1 a2 a3 a4 a5 a6 k
  have ih0 := spec_Seal.mono_l k
  unfold spec_Seal.f
  repeat' first
      | (with_reducible exact ih0 _ _ _ _ _ _ _ _)
      | (with_reducible exact spec_l01Digits.mono _ _ _)
      | (with_reducible exact spec_l03Stream.mono _ _ _ _ _ _ _)
      | (with_reducible exact spec_l03Tag.mono _ _ _ _ _ _ _ _)
      | (with_reducible exact spec_l03Xor.mono _ _ _)
      | (with_reducible exact LeO.refl _)
      | (with_reducible exact LeO.none _)
      | (with_reducible refine LeO.ite ?_ ?_)
      | (with_reducible refine LeO.bind ?_ (fun _ => ?_))
      | exact ih0 _ _ _ _ _ _ _ _
      | exact spec_l01Digits.mono _ _ _
      | exact spec_l03Stream.mono _ _ _ _ _ _ _
      | exact spec_l03Tag.mono _ _ _ _ _ _ _ _
      | exact spec_l03Xor.mono _ _ _
      | exact LeO.none _
      | refine LeO.ite ?_ ?_
      | refine LeO.bind ?_ (fun _ => ?_)
set_option maxHeartbeats 8000000 in
set_option maxRecDepth 100000 in
theorem spec_Seal.calls (k : Nat) (A0_0 : Option Addr) (c0_0 : Nat) (l0_0 : List Int) (A0_1 : Option Addr) (c0_1 : Nat) (l0_1 : List Int) (A0_2 : Option Addr) (c0_2 : Nat) (l0_2 : List Int) (A0_3 : Option Addr) (c0_3 : Nat) (l0_3 : List Int) (a1 : Int) (A2 : Option Addr) (c2 : Nat) (l2 : List Int) (A3 : Option Addr) (c3 : Nat) (l3 : List Int) (r1 : List Int) (r2 : Int) (w : World) (hr0_0 : Kd.C (Kd.int .u8) w A0_0 l0_0.length l0_0) (hc0_0 : l0_0.length ≤ c0_0) (hr0_1 : Kd.C (Kd.int .u8) w A0_1 l0_1.length l0_1) (hc0_1 : l0_1.length ≤ c0_1) (hr0_2 : Kd.C (Kd.int .u8) w A0_2 l0_2.length l0_2) (hc0_2 : l0_2.length ≤ c0_2) (hr0_3 : Kd.C (Kd.int .u8) w A0_3 l0_3.length l0_3) (hc0_3 : l0_3.length ≤ c0_3) (hr2 : Kd.C (Kd.int .u8) w A2 l2.length l2) (hc2 : l2.length ≤ c2) (hr3 : Kd.C (Kd.int .u8) w A3 l3.length l3) (hc3 : l3.length ≤ c3) (h : spec_Seal.f k l0_0 l0_1 l0_2 l0_3 a1 l2 l3 = some (r1, r2)) :
    Calls Try.prog 28 #[.agg #[.slice A0_0 l0_0.length c0_0, .slice A0_1 l0_1.length c0_1, .slice A0_2 l0_2.length c0_2, .slice A0_3 l0_3.length c0_3], .int .i64 a1, .slice A2 l2.length c2, .slice A3 l3.length c3] w fun e w' => ∃ v0_ : Value, e = .returned (.tuple #[v0_, .int .i64 r2]) ∧ Kd.R (Kd.int .u8) 5 w' w.heap.size (fun _ => True) v0_ r1 ∧ Below w.heap.size w w' := by
  have hu24 := Try.underlying24
  have HR0_0 := Aside0.mk hr0_0
  have HC0_0 := Aside0.mk hc0_0
  clear hr0_0 hc0_0
  have HR0_1 := Aside0.mk hr0_1
  have HC0_1 := Aside0.mk hc0_1
  clear hr0_1 hc0_1
  have HR0_2 := Aside0.mk hr0_2
  have HC0_2 := Aside0.mk hc0_2
  clear hr0_2 hc0_2
  have HR0_3 := Aside0.mk hr0_3
  have HC0_3 := Aside0.mk hc0_3
  clear hr0_3 hc0_3
  have HR2 := Aside0.mk hr2
  have HC2 := Aside0.mk hc2
  clear hr2 hc2
  have HR3 := Aside0.mk hr3
  have HC3 := Aside0.mk hc3
  clear hr3 hc3
  have HB := Aside0.mk (Below.refl w.heap.size w)
  have H : ((spec_l03KeysOK.f l0_0 l0_1 l0_2 l0_3).bind fun t235 => (if t235 = true then (if a1 < 0 then (spec_Seal.j0 k a1 l2 l3 true l0_0 l0_1 l0_2 l0_3) else (spec_Seal.j0 k a1 l2 l3 (decide (a1 > 4611686018427387903)) l0_0 l0_1 l0_2 l0_3)) else (spec_Seal.j0 k a1 l2 l3 true l0_0 l0_1 l0_2 l0_3))) = some (r1, r2) := h
  clear h
  have HC5 := Aside0.mk H
  clear H
  go_enter Try.func28, Try.ntmps28
  go_upto_region 1 with (first | ((with_reducible refine gate_dst (N := 4) rfl ?_); refine box_event ?hg (N := 4) ?hd (cs := #[.slice A0_0 l0_0.length c0_0, .slice A0_1 l0_1.length c0_1, .slice A0_2 l0_2.length c0_2, .slice A0_3 l0_3.length c0_3]) (t := 24) ?hr ?_; (case hd => rfl); (case hg => rfl); (case hr => first | (go_simp; done) | (go_simp; rfl)); intro gb234 hg w6 hbox hb; have n0_ := Aside0.mk (below_step (by repeat (first | (with_reducible first | exact HB.out | apply below_alloc | apply pw_below_drewN | apply below_drew1) | exact HB.out)) hb); have n1_ := Aside0.mk (hbox); have n2_ := Aside0.mk ((by rw [hg]; exact (below_size (by repeat (first | (with_reducible first | exact HB.out | apply below_alloc | apply pw_below_drewN | apply below_drew1) | exact HB.out))) : w.heap.size ≤ gb234)); have n3_ := Aside0.mk ((by rw [hg]; exact (below_size (by repeat (first | (with_reducible first | exact HB.out | apply below_alloc | apply pw_below_drewN | apply below_drew1) | exact HB.out))) : w.heap.size ≤ gb234)); clear HB; have HB := n0_; have BK234 := n1_; have GW234 := n2_; have GE234 := n3_; clear n0_ n1_ n2_ n3_; clear hb hbox hg))
  (try simp only [Act.put, List.setIfInBounds_toArray, List.set_cons_zero, List.set_cons_succ])
  go_cut [22] (fun v22 wc => ∃ (kq : Nat) (x22_4 : Bool), v22 = .bool x22_4 ∧ Aside0 (spec_Seal.j0 kq a1 l2 l3 x22_4 l0_0 l0_1 l0_2 l0_3 = some (r1, r2)) ∧ Aside0 (kq ≤ k) ∧ Aside0 (wc.heap[gb234]? = some (.cells #[(.slice A0_0 l0_0.length c0_0), (.slice A0_1 l0_1.length c0_1), (.slice A0_2 l0_2.length c0_2), (.slice A0_3 l0_3.length c0_3)] 24 (0, 0))) ∧ Aside0 (Below w.heap.size w wc))
  case first =>
    have H := HC5.out
    clear HC5
    replace H := Option.bind_eq_some_iff.mp H
    obtain ⟨t235, A70, H⟩ := H
    replace H : (if t235 = true then (if a1 < 0 then (spec_Seal.j0 k a1 l2 l3 true l0_0 l0_1 l0_2 l0_3) else (spec_Seal.j0 k a1 l2 l3 (decide (a1 > 4611686018427387903)) l0_0 l0_1 l0_2 l0_3)) else (spec_Seal.j0 k a1 l2 l3 true l0_0 l0_1 l0_2 l0_3)) = some (r1, r2) := H
    have A7 := Aside0.mk A70
    clear A70
    by_cases c8 : t235 = true
    · subst c8
      have H1 : (if a1 < 0 then (spec_Seal.j0 k a1 l2 l3 true l0_0 l0_1 l0_2 l0_3) else (spec_Seal.j0 k a1 l2 l3 (decide (a1 > 4611686018427387903)) l0_0 l0_1 l0_2 l0_3)) = some (r1, r2) := by rw [if_pos rfl] at H; exact H
      clear H
      have H := H1
      clear H1
      by_cases c9 : a1 < 0
      · rw [if_pos c9] at H
        have c9b0 : decide (a1 < 0) = true := decide_eq_true c9
        clear c9
        (first | rw [c9b0] | (simp only [i64_w, i32_w]; rw [c9b0]) | skip)
        have H' := Aside0.mk H
        clear H
        have hcz10_0 : w6.cell? ⟨gb234, 0, none⟩ = some (.slice A0_0 l0_0.length c0_0) := (blk_cell BK234.out 0).trans rfl
        have hcz10_1 : w6.cell? ⟨gb234, 1, none⟩ = some (.slice A0_1 l0_1.length c0_1) := (blk_cell BK234.out 1).trans rfl
        have hcz10_2 : w6.cell? ⟨gb234, 2, none⟩ = some (.slice A0_2 l0_2.length c0_2) := (blk_cell BK234.out 2).trans rfl
        have hcz10_3 : w6.cell? ⟨gb234, 3, none⟩ = some (.slice A0_3 l0_3.length c0_3) := (blk_cell BK234.out 3).trans rfl
        have hfz10_0 := blk_frozen BK234.out 0
        have hfz10_1 := blk_frozen BK234.out 1
        have hfz10_2 := blk_frozen BK234.out 2
        have hfz10_3 := blk_frozen BK234.out 3
        go_wp2_with (first | ((with_reducible refine gate_callee (f := 83) rfl ?_); refine goesL_ (some 13) rfl rfl Try.func83 (by kernel_rfl) rfl #[.agg #[.slice A0_0 l0_0.length c0_0, .slice A0_1 l0_1.length c0_1, .slice A0_2 l0_2.length c0_2, .slice A0_3 l0_3.length c0_3]] rfl (by (try simp only [List.map_toArray, List.map_cons, List.map_nil]); first | done | rfl | (simp only [List.length_drop, List.length_take]; rfl)) ?_; (with_reducible refine (spec_l03KeysOK.calls _ _ l0_0 _ _ l0_1 _ _ l0_2 _ _ l0_3 true _ ?side1 ?side2 ?side3 ?side4 ?side5 ?side6 ?side7 ?side8 A7.out).mono ?_); (case side1 => repeat (first | exact (Kd.C_below HR0_0.out HB.out) | (with_reducible refine Kd.C_alloc ?_ _) | (with_reducible refine Kd.C_drewN ?_ _) | (with_reducible refine Kd.C_drew ?_))); (case side2 => exact HC0_0.out); (case side3 => repeat (first | exact (Kd.C_below HR0_1.out HB.out) | (with_reducible refine Kd.C_alloc ?_ _) | (with_reducible refine Kd.C_drewN ?_ _) | (with_reducible refine Kd.C_drew ?_))); (case side4 => exact HC0_1.out); (case side5 => repeat (first | exact (Kd.C_below HR0_2.out HB.out) | (with_reducible refine Kd.C_alloc ?_ _) | (with_reducible refine Kd.C_drewN ?_ _) | (with_reducible refine Kd.C_drew ?_))); (case side6 => exact HC0_2.out); (case side7 => repeat (first | exact (Kd.C_below HR0_3.out HB.out) | (with_reducible refine Kd.C_alloc ?_ _) | (with_reducible refine Kd.C_drewN ?_ _) | (with_reducible refine Kd.C_drew ?_))); (case side8 => exact HC0_3.out); rintro e w11 ⟨rfl, hb⟩; refine ⟨_, rfl, ?_⟩; have n0_ := Aside0.mk (blk_below (g := gb234) (o := .cells #[.slice A0_0 l0_0.length c0_0, .slice A0_1 l0_1.length c0_1, .slice A0_2 l0_2.length c0_2, .slice A0_3 l0_3.length c0_3] 24 (0, 0)) (by (with_reducible repeat (first | refine blk_drewN ?_ _ | refine blk_drew ?_ | refine blk_alloc ?_ _)); exact BK234.out) hb); have n1_ := Aside0.mk (below_step (by repeat (first | (with_reducible first | exact HB.out | apply below_alloc | apply pw_below_drewN | apply below_drew1 | refine below_set ?_ GE234.out) | exact HB.out)) hb); clear BK234; clear HB; have BK234 := n0_; have HB := n1_; clear n0_ n1_; (try clear hb); (try clear hb2); (try clear hk); (try clear hi)))
        go_meet
        case rel => exact ⟨_, (true), (by first | rfl | (simp; done) | (simp [*]; done)), H', ⟨by first | omega | exact Nat.le_refl _⟩, ⟨by (with_reducible repeat (first | refine blk_drewN ?_ _ | refine blk_drew ?_ | refine blk_alloc ?_ _)); exact BK234.out⟩, ⟨by repeat (first | (with_reducible first | exact HB.out | apply below_alloc | apply pw_below_drewN | apply below_drew1 | refine below_set ?_ GE234.out) | exact HB.out)⟩⟩
      · rw [if_neg c9] at H
        have c9b0 : decide (a1 < 0) = false := decide_eq_false c9
        clear c9
        (first | rw [c9b0] | (simp only [i64_w, i32_w]; rw [c9b0]) | skip)
        have H' := Aside0.mk H
        clear H
        have hcz12_0 : w6.cell? ⟨gb234, 0, none⟩ = some (.slice A0_0 l0_0.length c0_0) := (blk_cell BK234.out 0).trans rfl
        have hcz12_1 : w6.cell? ⟨gb234, 1, none⟩ = some (.slice A0_1 l0_1.length c0_1) := (blk_cell BK234.out 1).trans rfl
        have hcz12_2 : w6.cell? ⟨gb234, 2, none⟩ = some (.slice A0_2 l0_2.length c0_2) := (blk_cell BK234.out 2).trans rfl
        have hcz12_3 : w6.cell? ⟨gb234, 3, none⟩ = some (.slice A0_3 l0_3.length c0_3) := (blk_cell BK234.out 3).trans rfl
        have hfz12_0 := blk_frozen BK234.out 0
        have hfz12_1 := blk_frozen BK234.out 1
        have hfz12_2 := blk_frozen BK234.out 2
        have hfz12_3 := blk_frozen BK234.out 3
        go_wp2_with (first | ((with_reducible refine gate_callee (f := 83) rfl ?_); refine goesL_ (some 13) rfl rfl Try.func83 (by kernel_rfl) rfl #[.agg #[.slice A0_0 l0_0.length c0_0, .slice A0_1 l0_1.length c0_1, .slice A0_2 l0_2.length c0_2, .slice A0_3 l0_3.length c0_3]] rfl (by (try simp only [List.map_toArray, List.map_cons, List.map_nil]); first | done | rfl | (simp only [List.length_drop, List.length_take]; rfl)) ?_; (with_reducible refine (spec_l03KeysOK.calls _ _ l0_0 _ _ l0_1 _ _ l0_2 _ _ l0_3 true _ ?side1 ?side2 ?side3 ?side4 ?side5 ?side6 ?side7 ?side8 A7.out).mono ?_); (case side1 => repeat (first | exact (Kd.C_below HR0_0.out HB.out) | (with_reducible refine Kd.C_alloc ?_ _) | (with_reducible refine Kd.C_drewN ?_ _) | (with_reducible refine Kd.C_drew ?_))); (case side2 => exact HC0_0.out); (case side3 => repeat (first | exact (Kd.C_below HR0_1.out HB.out) | (with_reducible refine Kd.C_alloc ?_ _) | (with_reducible refine Kd.C_drewN ?_ _) | (with_reducible refine Kd.C_drew ?_))); (case side4 => exact HC0_1.out); (case side5 => repeat (first | exact (Kd.C_below HR0_2.out HB.out) | (with_reducible refine Kd.C_alloc ?_ _) | (with_reducible refine Kd.C_drewN ?_ _) | (with_reducible refine Kd.C_drew ?_))); (case side6 => exact HC0_2.out); (case side7 => repeat (first | exact (Kd.C_below HR0_3.out HB.out) | (with_reducible refine Kd.C_alloc ?_ _) | (with_reducible refine Kd.C_drewN ?_ _) | (with_reducible refine Kd.C_drew ?_))); (case side8 => exact HC0_3.out); rintro e w13 ⟨rfl, hb⟩; refine ⟨_, rfl, ?_⟩; have n0_ := Aside0.mk (blk_below (g := gb234) (o := .cells #[.slice A0_0 l0_0.length c0_0, .slice A0_1 l0_1.length c0_1, .slice A0_2 l0_2.length c0_2, .slice A0_3 l0_3.length c0_3] 24 (0, 0)) (by (with_reducible repeat (first | refine blk_drewN ?_ _ | refine blk_drew ?_ | refine blk_alloc ?_ _)); exact BK234.out) hb); have n1_ := Aside0.mk (below_step (by repeat (first | (with_reducible first | exact HB.out | apply below_alloc | apply pw_below_drewN | apply below_drew1 | refine below_set ?_ GE234.out) | exact HB.out)) hb); clear BK234; clear HB; have BK234 := n0_; have HB := n1_; clear n0_ n1_; (try clear hb); (try clear hb2); (try clear hk); (try clear hi)))
        go_meet
        case rel => exact ⟨_, (decide (a1 > 4611686018427387903)), (by first | rfl | (simp; done) | (simp [*]; done)), H', ⟨by first | omega | exact Nat.le_refl _⟩, ⟨by (with_reducible repeat (first | refine blk_drewN ?_ _ | refine blk_drew ?_ | refine blk_alloc ?_ _)); exact BK234.out⟩, ⟨by repeat (first | (with_reducible first | exact HB.out | apply below_alloc | apply pw_below_drewN | apply below_drew1 | refine below_set ?_ GE234.out) | exact HB.out)⟩⟩
    · replace c8 := Bool.eq_false_iff.mpr c8
      subst c8
      have H1 : (spec_Seal.j0 k a1 l2 l3 true l0_0 l0_1 l0_2 l0_3) = some (r1, r2) := by rw [if_neg (show ¬ (false = true) by decide)] at H; exact H
      clear H
      have H := H1
      clear H1
      have H' := Aside0.mk H
      clear H
      have hcz14_0 : w6.cell? ⟨gb234, 0, none⟩ = some (.slice A0_0 l0_0.length c0_0) := (blk_cell BK234.out 0).trans rfl
      have hcz14_1 : w6.cell? ⟨gb234, 1, none⟩ = some (.slice A0_1 l0_1.length c0_1) := (blk_cell BK234.out 1).trans rfl
      have hcz14_2 : w6.cell? ⟨gb234, 2, none⟩ = some (.slice A0_2 l0_2.length c0_2) := (blk_cell BK234.out 2).trans rfl
      have hcz14_3 : w6.cell? ⟨gb234, 3, none⟩ = some (.slice A0_3 l0_3.length c0_3) := (blk_cell BK234.out 3).trans rfl
      have hfz14_0 := blk_frozen BK234.out 0
      have hfz14_1 := blk_frozen BK234.out 1
      have hfz14_2 := blk_frozen BK234.out 2
      have hfz14_3 := blk_frozen BK234.out 3
      go_wp2_with (first | ((with_reducible refine gate_callee (f := 83) rfl ?_); refine goesL_ (some 13) rfl rfl Try.func83 (by kernel_rfl) rfl #[.agg #[.slice A0_0 l0_0.length c0_0, .slice A0_1 l0_1.length c0_1, .slice A0_2 l0_2.length c0_2, .slice A0_3 l0_3.length c0_3]] rfl (by (try simp only [List.map_toArray, List.map_cons, List.map_nil]); first | done | rfl | (simp only [List.length_drop, List.length_take]; rfl)) ?_; (with_reducible refine (spec_l03KeysOK.calls _ _ l0_0 _ _ l0_1 _ _ l0_2 _ _ l0_3 false _ ?side1 ?side2 ?side3 ?side4 ?side5 ?side6 ?side7 ?side8 A7.out).mono ?_); (case side1 => repeat (first | exact (Kd.C_below HR0_0.out HB.out) | (with_reducible refine Kd.C_alloc ?_ _) | (with_reducible refine Kd.C_drewN ?_ _) | (with_reducible refine Kd.C_drew ?_))); (case side2 => exact HC0_0.out); (case side3 => repeat (first | exact (Kd.C_below HR0_1.out HB.out) | (with_reducible refine Kd.C_alloc ?_ _) | (with_reducible refine Kd.C_drewN ?_ _) | (with_reducible refine Kd.C_drew ?_))); (case side4 => exact HC0_1.out); (case side5 => repeat (first | exact (Kd.C_below HR0_2.out HB.out) | (with_reducible refine Kd.C_alloc ?_ _) | (with_reducible refine Kd.C_drewN ?_ _) | (with_reducible refine Kd.C_drew ?_))); (case side6 => exact HC0_2.out); (case side7 => repeat (first | exact (Kd.C_below HR0_3.out HB.out) | (with_reducible refine Kd.C_alloc ?_ _) | (with_reducible refine Kd.C_drewN ?_ _) | (with_reducible refine Kd.C_drew ?_))); (case side8 => exact HC0_3.out); rintro e w15 ⟨rfl, hb⟩; refine ⟨_, rfl, ?_⟩; have n0_ := Aside0.mk (blk_below (g := gb234) (o := .cells #[.slice A0_0 l0_0.length c0_0, .slice A0_1 l0_1.length c0_1, .slice A0_2 l0_2.length c0_2, .slice A0_3 l0_3.length c0_3] 24 (0, 0)) (by (with_reducible repeat (first | refine blk_drewN ?_ _ | refine blk_drew ?_ | refine blk_alloc ?_ _)); exact BK234.out) hb); have n1_ := Aside0.mk (below_step (by repeat (first | (with_reducible first | exact HB.out | apply below_alloc | apply pw_below_drewN | apply below_drew1 | refine below_set ?_ GE234.out) | exact HB.out)) hb); clear BK234; clear HB; have BK234 := n0_; have HB := n1_; clear n0_ n1_; (try clear hb); (try clear hb2); (try clear hk); (try clear hi)))
      go_meet
      case rel => exact ⟨_, (true), (by first | rfl | (simp; done) | (simp [*]; done)), H', ⟨by first | omega | exact Nat.le_refl _⟩, ⟨by (with_reducible repeat (first | refine blk_drewN ?_ _ | refine blk_drew ?_ | refine blk_alloc ?_ _)); exact BK234.out⟩, ⟨by repeat (first | (with_reducible first | exact HB.out | apply below_alloc | apply pw_below_drewN | apply below_drew1 | refine below_set ?_ GE234.out) | exact HB.out)⟩⟩
  case rest =>
    clear HC5
    try clear c2
    try clear p2
    try clear c3
    try clear c8
    try clear c9
    try clear c9b0
    try clear hcz10_0
    try clear hcz10_1
    try clear hcz10_2
    try clear hcz10_3
    try clear hcz12_0
    try clear hcz12_1
    try clear hcz12_2
    try clear hcz12_3
    try clear hcz14_0
    try clear hcz14_1
    try clear hcz14_2
    try clear hcz14_3
    try clear hfz10_0
    try clear hfz10_1
    try clear hfz10_2
    try clear hfz10_3
    try clear hfz12_0
    try clear hfz12_1
    try clear hfz12_2
    try clear hfz12_3
    try clear hfz14_0
    try clear hfz14_1
    try clear hfz14_2
    try clear hfz14_3
    obtain ⟨kq, x22_4, rfl, HA, HJ4, BK234, HB⟩ := hcut
    cases kq with
    | zero => exact absurd HA.out (by simp [spec_Seal.j0])
    | succ kj4 =>
      have H := HA.out
      clear HA
      simp only [spec_Seal.j0] at H
      by_cases c16 : x22_4 = true
      · subst c16
        have H1 : (some ((([] : List Int)), 1)) = some (r1, r2) := by rw [if_pos rfl] at H; exact H
        clear H
        have H := H1
        clear H1
        obtain ⟨y236, hy236⟩ : ∃ y_ : List Int, y_ = (([] : List Int)) := ⟨_, rfl⟩
        replace H : (some (y236, 1)) = some (r1, r2) := by first | (rw [hy236]; with_reducible exact H) | (have H2_ := (Option.bind_some _ _).symm.trans H; rw [hy236]; with_reducible exact H2_) | (have H2_ := (Option.bind_some _ _).symm.trans H; with_reducible exact H2_) | with_reducible exact H | (rw [hy236]; exact H) | exact H
        have Ny236 := Aside0.mk hy236
        clear hy236
        simp only [Option.some.injEq, Prod.mk.injEq] at H
        obtain ⟨rfl, rfl⟩ := H
        go_wp2_with (first | ((with_reducible refine gate_dst (N := 23) rfl ?_); refine Kd.R_lit (Kd.int .u8) _ 5 ?hg (N := 23) ?hd (xs := ([] : List Int)) (inner := []) (ok := fun _ => True) (okp := fun _ => True) ?hr ?hp (fun _ hk => hk) trivial (Below.refl _ _) (Nat.le_refl _) (by simp) ?_; (case hd => rfl); (case hg => rfl); (case hr => first | (go_simp; done) | (go_simp; rfl)); (case hp => exact (Reps.none _ _)); intro v237 w17 ho18 hb hg_ hnew_; clear hg_ hnew_; (first | rw [← Ny236.out] at ho18 | (simp only [Int.reduceToNat] at ho18; rw [← Ny236.out] at ho18)); have n0_ := Aside0.mk (Kd.R_lower ho18 (below_size (by repeat (first | (with_reducible first | exact HB.out | apply below_alloc | apply pw_below_drewN | apply below_drew1 | refine below_set ?_ GE234.out) | exact HB.out)))); have n1_ := Aside0.mk (blk_below (g := gb234) (o := .cells #[.slice A0_0 l0_0.length c0_0, .slice A0_1 l0_1.length c0_1, .slice A0_2 l0_2.length c0_2, .slice A0_3 l0_3.length c0_3] 24 (0, 0)) (by (with_reducible repeat (first | refine blk_drewN ?_ _ | refine blk_drew ?_ | refine blk_alloc ?_ _)); exact BK234.out) hb); have n2_ := Aside0.mk (below_step (by repeat (first | (with_reducible first | exact HB.out | apply below_alloc | apply pw_below_drewN | apply below_drew1 | refine below_set ?_ GE234.out) | exact HB.out)) hb); clear BK234; clear HB; have HO238 := n0_; have BK234 := n1_; have HB := n2_; clear n0_ n1_ n2_; clear hb ho18))
        go_ret2
        exact ⟨_, by first | rfl | (simp [errW_none, errW_some] <;> rfl) | (simp [*, errW_none, errW_some] <;> rfl), by (with_reducible repeat (first | apply Kd.R_alloc | apply Kd.R_drewN | apply Kd.R_drew)); exact HO238.out, by repeat (first | (with_reducible first | exact HB.out | apply below_alloc | apply pw_below_drewN | apply below_drew1 | refine below_set ?_ GE234.out) | exact HB.out)⟩
      · replace c16 := Bool.eq_false_iff.mpr c16
        subst c16
        have H1 : (if (wrap64 ((l2.length : Int) + (l3.length : Int))) > 1500 then (some ((([] : List Int)), 4)) else ((spec_l01Digits.f kj4 a1 8).bind fun t242 => ((spec_l03Xor.f kj4 l0_2 t242).bind fun t245 => ((spec_l03Stream.f kj4 l0_0 l0_1 l0_2 l0_3 t245 (l3.length : Int)).bind fun t248 => ((spec_l03Xor.f kj4 l3 t248).bind fun t251 => ((spec_l03Tag.f kj4 l0_0 l0_1 l0_2 l0_3 t245 l2 t251).bind fun t254 => (if t251.length + t254.length < 140737488355328 then (some ((t251 ++ t254), 0)) else (none)))))))) = some (r1, r2) := by rw [if_neg (show ¬ (false = true) by decide)] at H; exact H
        clear H
        have H := H1
        clear H1
        by_cases c19 : (wrap64 ((l2.length : Int) + (l3.length : Int))) > 1500
        · rw [if_pos c19] at H
          have c19b0 : decide (1500 < (wrap64 ((l2.length : Int) + (l3.length : Int)))) = true := decide_eq_true c19
          clear c19
          obtain ⟨y239, hy239⟩ : ∃ y_ : List Int, y_ = (([] : List Int)) := ⟨_, rfl⟩
          replace H : (some (y239, 4)) = some (r1, r2) := by first | (rw [hy239]; with_reducible exact H) | (have H2_ := (Option.bind_some _ _).symm.trans H; rw [hy239]; with_reducible exact H2_) | (have H2_ := (Option.bind_some _ _).symm.trans H; with_reducible exact H2_) | with_reducible exact H | (rw [hy239]; exact H) | exact H
          have Ny239 := Aside0.mk hy239
          clear hy239
          simp only [Option.some.injEq, Prod.mk.injEq] at H
          obtain ⟨rfl, rfl⟩ := H
          go_wp2_with (first | ((with_reducible refine gate_dst (N := 30) rfl ?_); refine Kd.R_lit (Kd.int .u8) _ 5 ?hg (N := 30) ?hd (xs := ([] : List Int)) (inner := []) (ok := fun _ => True) (okp := fun _ => True) ?hr ?hp (fun _ hk => hk) trivial (Below.refl _ _) (Nat.le_refl _) (by simp) ?_; (case hd => rfl); (case hg => rfl); (case hr => first | (go_simp; done) | (go_simp; rfl)); (case hp => exact (Reps.none _ _)); intro v240 w20 ho21 hb hg_ hnew_; clear hg_ hnew_; (first | rw [← Ny239.out] at ho21 | (simp only [Int.reduceToNat] at ho21; rw [← Ny239.out] at ho21)); have n0_ := Aside0.mk (Kd.R_lower ho21 (below_size (by repeat (first | (with_reducible first | exact HB.out | apply below_alloc | apply pw_below_drewN | apply below_drew1 | refine below_set ?_ GE234.out) | exact HB.out)))); have n1_ := Aside0.mk (blk_below (g := gb234) (o := .cells #[.slice A0_0 l0_0.length c0_0, .slice A0_1 l0_1.length c0_1, .slice A0_2 l0_2.length c0_2, .slice A0_3 l0_3.length c0_3] 24 (0, 0)) (by (with_reducible repeat (first | refine blk_drewN ?_ _ | refine blk_drew ?_ | refine blk_alloc ?_ _)); exact BK234.out) hb); have n2_ := Aside0.mk (below_step (by repeat (first | (with_reducible first | exact HB.out | apply below_alloc | apply pw_below_drewN | apply below_drew1 | refine below_set ?_ GE234.out) | exact HB.out)) hb); clear BK234; clear HB; have HO241 := n0_; have BK234 := n1_; have HB := n2_; clear n0_ n1_ n2_; clear hb ho21))
          go_ret2
          exact ⟨_, by first | rfl | (simp [errW_none, errW_some] <;> rfl) | (simp [*, errW_none, errW_some] <;> rfl), by (with_reducible repeat (first | apply Kd.R_alloc | apply Kd.R_drewN | apply Kd.R_drew)); exact HO241.out, by repeat (first | (with_reducible first | exact HB.out | apply below_alloc | apply pw_below_drewN | apply below_drew1 | refine below_set ?_ GE234.out) | exact HB.out)⟩
        · rw [if_neg c19] at H
          have c19b0 : decide (1500 < (wrap64 ((l2.length : Int) + (l3.length : Int)))) = false := decide_eq_false c19
          clear c19
          replace H := Option.bind_eq_some_iff.mp H
          obtain ⟨t242, A220, H⟩ := H
          replace H : ((spec_l03Xor.f kj4 l0_2 t242).bind fun t245 => ((spec_l03Stream.f kj4 l0_0 l0_1 l0_2 l0_3 t245 (l3.length : Int)).bind fun t248 => ((spec_l03Xor.f kj4 l3 t248).bind fun t251 => ((spec_l03Tag.f kj4 l0_0 l0_1 l0_2 l0_3 t245 l2 t251).bind fun t254 => (if t251.length + t254.length < 140737488355328 then (some ((t251 ++ t254), 0)) else (none)))))) = some (r1, r2) := H
          have A22 := Aside0.mk A220
          clear A220
          replace H := Option.bind_eq_some_iff.mp H
          obtain ⟨t245, A230, H⟩ := H
          replace H : ((spec_l03Stream.f kj4 l0_0 l0_1 l0_2 l0_3 t245 (l3.length : Int)).bind fun t248 => ((spec_l03Xor.f kj4 l3 t248).bind fun t251 => ((spec_l03Tag.f kj4 l0_0 l0_1 l0_2 l0_3 t245 l2 t251).bind fun t254 => (if t251.length + t254.length < 140737488355328 then (some ((t251 ++ t254), 0)) else (none))))) = some (r1, r2) := H
          have A23 := Aside0.mk A230
          clear A230
          replace H := Option.bind_eq_some_iff.mp H
          obtain ⟨t248, A240, H⟩ := H
          replace H : ((spec_l03Xor.f kj4 l3 t248).bind fun t251 => ((spec_l03Tag.f kj4 l0_0 l0_1 l0_2 l0_3 t245 l2 t251).bind fun t254 => (if t251.length + t254.length < 140737488355328 then (some ((t251 ++ t254), 0)) else (none)))) = some (r1, r2) := H
          have A24 := Aside0.mk A240
          clear A240
          replace H := Option.bind_eq_some_iff.mp H
          obtain ⟨t251, A250, H⟩ := H
          replace H : ((spec_l03Tag.f kj4 l0_0 l0_1 l0_2 l0_3 t245 l2 t251).bind fun t254 => (if t251.length + t254.length < 140737488355328 then (some ((t251 ++ t254), 0)) else (none))) = some (r1, r2) := H
          have A25 := Aside0.mk A250
          clear A250
          replace H := Option.bind_eq_some_iff.mp H
          obtain ⟨t254, A260, H⟩ := H
          replace H : (if t251.length + t254.length < 140737488355328 then (some ((t251 ++ t254), 0)) else (none)) = some (r1, r2) := H
          have A26 := Aside0.mk A260
          clear A260
          by_cases c27 : t251.length + t254.length < 140737488355328
          · rw [if_pos c27] at H
            have LMc27 := Aside0.mk c27
            clear c27
            obtain ⟨y257, hy257⟩ : ∃ y_ : List Int, y_ = (t251 ++ t254) := ⟨_, rfl⟩
            replace H : (some (y257, 0)) = some (r1, r2) := by first | (rw [hy257]; with_reducible exact H) | (have H2_ := (Option.bind_some _ _).symm.trans H; rw [hy257]; with_reducible exact H2_) | (have H2_ := (Option.bind_some _ _).symm.trans H; with_reducible exact H2_) | with_reducible exact H | (rw [hy257]; exact H) | exact H
            have Ny257 := Aside0.mk hy257
            clear hy257
            simp only [Option.some.injEq, Prod.mk.injEq] at H
            obtain ⟨rfl, rfl⟩ := H
            try go_wp2
            have n0_ := Aside0.mk (blk_drew BK234.out)
            have n1_ := Aside0.mk (below_drew1 HB.out)
            clear BK234
            clear HB
            have BK234 := n0_
            have HB := n1_
            clear n0_ n1_
            refine start_ (n := 6) (S := fun w' => w'.cell? ⟨gb234, 0, none⟩ = some (.slice A0_0 l0_0.length c0_0) ∧ w'.cell? ⟨gb234, 1, none⟩ = some (.slice A0_1 l0_1.length c0_1) ∧ w'.cell? ⟨gb234, 2, none⟩ = some (.slice A0_2 l0_2.length c0_2) ∧ w'.cell? ⟨gb234, 3, none⟩ = some (.slice A0_3 l0_3.length c0_3)) (ds := []) #[false, false, false, false, false, false] (by kernel_rfl) rfl rfl ⟨(blk_cell BK234.out 0).trans rfl, (blk_cell BK234.out 1).trans rfl, (blk_cell BK234.out 2).trans rfl, (blk_cell BK234.out 3).trans rfl⟩ (fun hHeld => ?_)
            generalize wc.drew = w28 at BK234 HB hHeld ⊢
            refine pure_ (i := 0) (N := some 31) (v := ?_) (a' := ?_) #[true, false, false, false, false, false] rfl rfl (by kernel_rfl) (fun _ _ _ h => h) (Or.inl ⟨by rfl, ?_⟩) ?_ ?_
            rotate_left
            · intro w'
              go_simp
              with_reducible rfl
            rotate_left
            · simp only [Act.put, List.setIfInBounds_toArray, List.set_cons_zero, List.set_cons_succ, i64_w, i32_w]
              rfl
            refine pure_ (i := 2) (N := some 33) (v := ?_) (a' := ?_) #[true, false, true, false, false, false] rfl rfl (by kernel_rfl) (fun _ _ _ h => h) (Or.inl ⟨by rfl, ?_⟩) ?_ ?_
            rotate_left
            · intro w'
              go_simp
              with_reducible rfl
            rotate_left
            · simp only [Act.put, List.setIfInBounds_toArray, List.set_cons_zero, List.set_cons_succ, i64_w, i32_w]
              rfl
            refine take_ (i := 1) (N := some 32) (v := ?_) (a' := ?_) #[true, true, true, false, false, false] rfl rfl (by kernel_rfl) (fun _ _ _ h => h) (Or.inl ⟨by rfl, ?_⟩) hHeld ?_ ?_
            rotate_left
            · rintro w' ⟨s0, s1, s2, s3⟩
              go_simp
              with_reducible rfl
            rotate_left
            · simp only [Act.put, List.setIfInBounds_toArray, List.set_cons_zero, List.set_cons_succ, i64_w, i32_w]
              rfl
            refine one_ (i := 3) (N := some 34) #[true, true, true, true, false, false] rfl rfl (by kernel_rfl) (by decide) (fun K hK => ?_)
            refine goes_ Try.func67 (by kernel_rfl) rfl #[.int .i64 a1, .int .i64 8] (by rfl) rfl rfl (by (try simp only [List.map_toArray, List.map_cons, List.map_nil]); first | done | rfl | (simp only [List.length_drop, List.length_take]; rfl)) ?_
            with_reducible refine (spec_l01Digits.calls kj4 a1 8 t242 _ A22.out).mono ?_
            rintro e w29 ⟨v243, rfl, ho0, hb⟩
            refine ⟨_, rfl, ?_⟩
            have n0_ := Aside0.mk (Kd.R_lower ho0 (below_size (by repeat (first | (with_reducible first | exact HB.out | apply below_alloc | apply pw_below_drewN | apply below_drew1 | refine below_set ?_ GE234.out) | exact HB.out))))
            have n1_ := Aside0.mk (blk_below (g := gb234) (o := .cells #[.slice A0_0 l0_0.length c0_0, .slice A0_1 l0_1.length c0_1, .slice A0_2 l0_2.length c0_2, .slice A0_3 l0_3.length c0_3] 24 (0, 0)) (by (with_reducible repeat (first | refine blk_drewN ?_ _ | refine blk_drew ?_ | refine blk_alloc ?_ _)); exact BK234.out) hb)
            have n2_ := Aside0.mk (below_step (by repeat (first | (with_reducible first | exact HB.out | apply below_alloc | apply pw_below_drewN | apply below_drew1 | refine below_set ?_ GE234.out) | exact HB.out)) hb)
            clear BK234
            clear HB
            have HO244 := n0_
            have BK234 := n1_
            have HB := n2_
            clear n0_ n1_ n2_
            (try clear hb)
            (try clear hb2)
            (try clear hk)
            (try clear hi)
            (try clear ho0)
            obtain ⟨Ao30, co30, eo30⟩ := Kd.R_slice HO244.out
            (first | subst eo30 | (injection eo30 with f1_ f2_ f3_; have f4_ := f1_.symm; have f5_ := f3_.symm; clear f1_ f2_ f3_; subst f4_; subst f5_))
            refine hK.out _ _ ⟨(blk_cell BK234.out 0).trans rfl, (blk_cell BK234.out 1).trans rfl, (blk_cell BK234.out 2).trans rfl, (blk_cell BK234.out 3).trans rfl⟩ (fun hHeld => ?_)
            clear hK K
            refine norm_ (a' := ?_) ?_ ?_
            rotate_left
            · show Act.put _ (some 34) _ = _
              simp only [Act.put, List.setIfInBounds_toArray, List.set_cons_zero, List.set_cons_succ, i64_w, i32_w]
              rfl
            refine one_ (i := 4) (N := some 35) #[true, true, true, true, true, false] rfl rfl (by kernel_rfl) (by decide) (fun K hK => ?_)
            refine goes_ Try.func84 (by kernel_rfl) rfl #[.slice A0_2 l0_2.length c0_2, .slice Ao30 t242.length co30] (by rfl) rfl rfl (by (try simp only [List.map_toArray, List.map_cons, List.map_nil]); first | done | rfl | (simp only [List.length_drop, List.length_take]; rfl)) ?_
            with_reducible refine (spec_l03Xor.calls kj4 _ _ l0_2 _ _ t242 t245 _ ?side1 ?side2 ?side3 ?side4 A23.out).mono ?_
            (case side1 => repeat (first | exact (Kd.C_below HR0_2.out HB.out) | (with_reducible refine Kd.C_alloc ?_ _) | (with_reducible refine Kd.C_drewN ?_ _) | (with_reducible refine Kd.C_drew ?_)))
            (case side2 => exact HC0_2.out)
            (case side3 => repeat (first | exact (Kd.R_reads' HO244.out).2.2 | (with_reducible refine Kd.C_alloc ?_ _) | (with_reducible refine Kd.C_drewN ?_ _) | (with_reducible refine Kd.C_drew ?_)))
            (case side4 => exact (Kd.R_reads' HO244.out).2.1)
            rintro e w31 ⟨v246, rfl, ho0, hb⟩
            refine ⟨_, rfl, ?_⟩
            have n0_ := Aside0.mk (Kd.R_elder' (by (with_reducible repeat (first | apply Kd.R_alloc | apply Kd.R_drewN | apply Kd.R_drew)); exact HO244.out) (Kd.R_base ho0) hb)
            have n1_ := Aside0.mk (Kd.R_lower (Kd.R_new' ho0 (Kd.R_lt (by (with_reducible repeat (first | apply Kd.R_alloc | apply Kd.R_drewN | apply Kd.R_drew)); exact HO244.out))) (below_size (by repeat (first | (with_reducible first | exact HB.out | apply below_alloc | apply pw_below_drewN | apply below_drew1 | refine below_set ?_ GE234.out) | exact HB.out))))
            have n2_ := Aside0.mk (blk_below (g := gb234) (o := .cells #[.slice A0_0 l0_0.length c0_0, .slice A0_1 l0_1.length c0_1, .slice A0_2 l0_2.length c0_2, .slice A0_3 l0_3.length c0_3] 24 (0, 0)) (by (with_reducible repeat (first | refine blk_drewN ?_ _ | refine blk_drew ?_ | refine blk_alloc ?_ _)); exact BK234.out) hb)
            have n3_ := Aside0.mk (below_step (by repeat (first | (with_reducible first | exact HB.out | apply below_alloc | apply pw_below_drewN | apply below_drew1 | refine below_set ?_ GE234.out) | exact HB.out)) hb)
            clear HO244
            clear BK234
            clear HB
            have HO244 := n0_
            have HO247 := n1_
            have BK234 := n2_
            have HB := n3_
            clear n0_ n1_ n2_ n3_
            (try clear hb)
            (try clear hb2)
            (try clear hk)
            (try clear hi)
            (try clear ho0)
            refine hK.out _ _ ⟨(blk_cell BK234.out 0).trans rfl, (blk_cell BK234.out 1).trans rfl, (blk_cell BK234.out 2).trans rfl, (blk_cell BK234.out 3).trans rfl⟩ (fun hHeld => ?_)
            clear hK K
            refine norm_ (a' := ?_) ?_ ?_
            rotate_left
            · show Act.put _ (some 35) _ = _
              simp only [Act.put, List.setIfInBounds_toArray, List.set_cons_zero, List.set_cons_succ, i64_w, i32_w]
              rfl
            refine pure_ (i := 5) (N := some 10) (v := ?_) (a' := ?_) #[true, true, true, true, true, true] rfl rfl (by kernel_rfl) (fun _ _ _ h => h) (Or.inl ⟨by rfl, ?_⟩) ?_ ?_
            rotate_left
            · intro w'
              go_simp
              with_reducible rfl
            rotate_left
            · simp only [Act.put, List.setIfInBounds_toArray, List.set_cons_zero, List.set_cons_succ, i64_w, i32_w]
              rfl
            refine done_ (by kernel_rfl) ?_
            have hcz32_0 : w31.cell? ⟨gb234, 0, none⟩ = some (.slice A0_0 l0_0.length c0_0) := (blk_cell BK234.out 0).trans rfl
            have hcz32_1 : w31.cell? ⟨gb234, 1, none⟩ = some (.slice A0_1 l0_1.length c0_1) := (blk_cell BK234.out 1).trans rfl
            have hcz32_2 : w31.cell? ⟨gb234, 2, none⟩ = some (.slice A0_2 l0_2.length c0_2) := (blk_cell BK234.out 2).trans rfl
            have hcz32_3 : w31.cell? ⟨gb234, 3, none⟩ = some (.slice A0_3 l0_3.length c0_3) := (blk_cell BK234.out 3).trans rfl
            have hfz32_0 := blk_frozen BK234.out 0
            have hfz32_1 := blk_frozen BK234.out 1
            have hfz32_2 := blk_frozen BK234.out 2
            have hfz32_3 := blk_frozen BK234.out 3
            obtain ⟨Ao33, co33, eo33⟩ := Kd.R_slice HO247.out
            subst eo33
            try go_wp2_with (first | ((with_reducible refine gate_callee (f := 85) rfl ?_); refine goesL_ (some 41) rfl rfl Try.func85 (by kernel_rfl) rfl #[.agg #[.slice A0_0 l0_0.length c0_0, .slice A0_1 l0_1.length c0_1, .slice A0_2 l0_2.length c0_2, .slice A0_3 l0_3.length c0_3], .slice Ao33 t245.length co33, .int .i64 (l3.length : Int)] rfl (by (try simp only [List.map_toArray, List.map_cons, List.map_nil]); first | done | rfl | (simp only [List.length_drop, List.length_take]; rfl)) ?_; (with_reducible refine (spec_l03Stream.calls kj4 _ _ l0_0 _ _ l0_1 _ _ l0_2 _ _ l0_3 _ _ t245 (l3.length : Int) t248 _ ?side1 ?side2 ?side3 ?side4 ?side5 ?side6 ?side7 ?side8 ?side9 ?side10 A24.out).mono ?_); (case side1 => repeat (first | exact (Kd.C_below HR0_0.out HB.out) | (with_reducible refine Kd.C_alloc ?_ _) | (with_reducible refine Kd.C_drewN ?_ _) | (with_reducible refine Kd.C_drew ?_))); (case side2 => exact HC0_0.out); (case side3 => repeat (first | exact (Kd.C_below HR0_1.out HB.out) | (with_reducible refine Kd.C_alloc ?_ _) | (with_reducible refine Kd.C_drewN ?_ _) | (with_reducible refine Kd.C_drew ?_))); (case side4 => exact HC0_1.out); (case side5 => repeat (first | exact (Kd.C_below HR0_2.out HB.out) | (with_reducible refine Kd.C_alloc ?_ _) | (with_reducible refine Kd.C_drewN ?_ _) | (with_reducible refine Kd.C_drew ?_))); (case side6 => exact HC0_2.out); (case side7 => repeat (first | exact (Kd.C_below HR0_3.out HB.out) | (with_reducible refine Kd.C_alloc ?_ _) | (with_reducible refine Kd.C_drewN ?_ _) | (with_reducible refine Kd.C_drew ?_))); (case side8 => exact HC0_3.out); (case side9 => repeat (first | exact (Kd.R_reads' HO247.out).2.2 | (with_reducible refine Kd.C_alloc ?_ _) | (with_reducible refine Kd.C_drewN ?_ _) | (with_reducible refine Kd.C_drew ?_))); (case side10 => exact (Kd.R_reads' HO247.out).2.1); rintro e w34 ⟨v249, rfl, ho0, hb⟩; refine ⟨_, rfl, ?_⟩; have n0_ := Aside0.mk (Kd.R_elder' (by (with_reducible repeat (first | apply Kd.R_alloc | apply Kd.R_drewN | apply Kd.R_drew)); exact HO244.out) (Kd.R_base ho0) hb); have n1_ := Aside0.mk (Kd.R_elder' (by (with_reducible repeat (first | apply Kd.R_alloc | apply Kd.R_drewN | apply Kd.R_drew)); exact HO247.out) (Kd.R_base ho0) hb); have n2_ := Aside0.mk (Kd.R_lower (Kd.R_new' (Kd.R_new' ho0 (Kd.R_lt (by (with_reducible repeat (first | apply Kd.R_alloc | apply Kd.R_drewN | apply Kd.R_drew)); exact HO244.out))) (Kd.R_lt (by (with_reducible repeat (first | apply Kd.R_alloc | apply Kd.R_drewN | apply Kd.R_drew)); exact HO247.out))) (below_size (by repeat (first | (with_reducible first | exact HB.out | apply below_alloc | apply pw_below_drewN | apply below_drew1 | refine below_set ?_ GE234.out) | exact HB.out)))); have n3_ := Aside0.mk (blk_below (g := gb234) (o := .cells #[.slice A0_0 l0_0.length c0_0, .slice A0_1 l0_1.length c0_1, .slice A0_2 l0_2.length c0_2, .slice A0_3 l0_3.length c0_3] 24 (0, 0)) (by (with_reducible repeat (first | refine blk_drewN ?_ _ | refine blk_drew ?_ | refine blk_alloc ?_ _)); exact BK234.out) hb); have n4_ := Aside0.mk (below_step (by repeat (first | (with_reducible first | exact HB.out | apply below_alloc | apply pw_below_drewN | apply below_drew1 | refine below_set ?_ GE234.out) | exact HB.out)) hb); clear HO244; clear HO247; clear BK234; clear HB; have HO244 := n0_; have HO247 := n1_; have HO250 := n2_; have BK234 := n3_; have HB := n4_; clear n0_ n1_ n2_ n3_ n4_; (try clear hb); (try clear hb2); (try clear hk); (try clear hi); (try clear ho0); obtain ⟨Ao35, co35, eo35⟩ := Kd.R_slice HO250.out; subst eo35) | ((with_reducible refine gate_callee (f := 84) rfl ?_); refine goesL_ (some 42) rfl rfl Try.func84 (by kernel_rfl) rfl #[.slice A3 l3.length c3, .slice Ao35 t248.length co35] rfl (by (try simp only [List.map_toArray, List.map_cons, List.map_nil]); first | done | rfl | (simp only [List.length_drop, List.length_take]; rfl)) ?_; (with_reducible refine (spec_l03Xor.calls kj4 _ _ l3 _ _ t248 t251 _ ?side1 ?side2 ?side3 ?side4 A25.out).mono ?_); (case side1 => repeat (first | exact (Kd.C_below HR3.out HB.out) | (with_reducible refine Kd.C_alloc ?_ _) | (with_reducible refine Kd.C_drewN ?_ _) | (with_reducible refine Kd.C_drew ?_))); (case side2 => exact HC3.out); (case side3 => repeat (first | exact (Kd.R_reads' HO250.out).2.2 | (with_reducible refine Kd.C_alloc ?_ _) | (with_reducible refine Kd.C_drewN ?_ _) | (with_reducible refine Kd.C_drew ?_))); (case side4 => exact (Kd.R_reads' HO250.out).2.1); rintro e w36 ⟨v252, rfl, ho0, hb⟩; refine ⟨_, rfl, ?_⟩; have n0_ := Aside0.mk (Kd.R_elder' (by (with_reducible repeat (first | apply Kd.R_alloc | apply Kd.R_drewN | apply Kd.R_drew)); exact HO244.out) (Kd.R_base ho0) hb); have n1_ := Aside0.mk (Kd.R_elder' (by (with_reducible repeat (first | apply Kd.R_alloc | apply Kd.R_drewN | apply Kd.R_drew)); exact HO247.out) (Kd.R_base ho0) hb); have n2_ := Aside0.mk (Kd.R_elder' (by (with_reducible repeat (first | apply Kd.R_alloc | apply Kd.R_drewN | apply Kd.R_drew)); exact HO250.out) (Kd.R_base ho0) hb); have n3_ := Aside0.mk (Kd.R_lower (Kd.R_new' (Kd.R_new' (Kd.R_new' ho0 (Kd.R_lt (by (with_reducible repeat (first | apply Kd.R_alloc | apply Kd.R_drewN | apply Kd.R_drew)); exact HO244.out))) (Kd.R_lt (by (with_reducible repeat (first | apply Kd.R_alloc | apply Kd.R_drewN | apply Kd.R_drew)); exact HO247.out))) (Kd.R_lt (by (with_reducible repeat (first | apply Kd.R_alloc | apply Kd.R_drewN | apply Kd.R_drew)); exact HO250.out))) (below_size (by repeat (first | (with_reducible first | exact HB.out | apply below_alloc | apply pw_below_drewN | apply below_drew1 | refine below_set ?_ GE234.out) | exact HB.out)))); have n4_ := Aside0.mk (blk_below (g := gb234) (o := .cells #[.slice A0_0 l0_0.length c0_0, .slice A0_1 l0_1.length c0_1, .slice A0_2 l0_2.length c0_2, .slice A0_3 l0_3.length c0_3] 24 (0, 0)) (by (with_reducible repeat (first | refine blk_drewN ?_ _ | refine blk_drew ?_ | refine blk_alloc ?_ _)); exact BK234.out) hb); have n5_ := Aside0.mk (below_step (by repeat (first | (with_reducible first | exact HB.out | apply below_alloc | apply pw_below_drewN | apply below_drew1 | refine below_set ?_ GE234.out) | exact HB.out)) hb); clear HO244; clear HO247; clear HO250; clear BK234; clear HB; have HO244 := n0_; have HO247 := n1_; have HO250 := n2_; have HO253 := n3_; have BK234 := n4_; have HB := n5_; clear n0_ n1_ n2_ n3_ n4_ n5_; (try clear hb); (try clear hb2); (try clear hk); (try clear hi); (try clear ho0); have hcz37_0 : w36.cell? ⟨gb234, 0, none⟩ = some (.slice A0_0 l0_0.length c0_0) := (blk_cell BK234.out 0).trans rfl; have hcz37_1 : w36.cell? ⟨gb234, 1, none⟩ = some (.slice A0_1 l0_1.length c0_1) := (blk_cell BK234.out 1).trans rfl; have hcz37_2 : w36.cell? ⟨gb234, 2, none⟩ = some (.slice A0_2 l0_2.length c0_2) := (blk_cell BK234.out 2).trans rfl; have hcz37_3 : w36.cell? ⟨gb234, 3, none⟩ = some (.slice A0_3 l0_3.length c0_3) := (blk_cell BK234.out 3).trans rfl; have hfz37_0 := blk_frozen BK234.out 0; have hfz37_1 := blk_frozen BK234.out 1; have hfz37_2 := blk_frozen BK234.out 2; have hfz37_3 := blk_frozen BK234.out 3; obtain ⟨Ao38, co38, eo38⟩ := Kd.R_slice HO253.out; subst eo38) | ((with_reducible refine gate_callee (f := 86) rfl ?_); refine goesL_ (some 48) rfl rfl Try.func86 (by kernel_rfl) rfl #[.agg #[.slice A0_0 l0_0.length c0_0, .slice A0_1 l0_1.length c0_1, .slice A0_2 l0_2.length c0_2, .slice A0_3 l0_3.length c0_3], .slice Ao33 t245.length co33, .slice A2 l2.length c2, .slice Ao38 t251.length co38] rfl (by (try simp only [List.map_toArray, List.map_cons, List.map_nil]); first | done | rfl | (simp only [List.length_drop, List.length_take]; rfl)) ?_; (with_reducible refine (spec_l03Tag.calls kj4 _ _ l0_0 _ _ l0_1 _ _ l0_2 _ _ l0_3 _ _ t245 _ _ l2 _ _ t251 t254 _ ?side1 ?side2 ?side3 ?side4 ?side5 ?side6 ?side7 ?side8 ?side9 ?side10 ?side11 ?side12 ?side13 ?side14 A26.out).mono ?_); (case side1 => repeat (first | exact (Kd.C_below HR0_0.out HB.out) | (with_reducible refine Kd.C_alloc ?_ _) | (with_reducible refine Kd.C_drewN ?_ _) | (with_reducible refine Kd.C_drew ?_))); (case side2 => exact HC0_0.out); (case side3 => repeat (first | exact (Kd.C_below HR0_1.out HB.out) | (with_reducible refine Kd.C_alloc ?_ _) | (with_reducible refine Kd.C_drewN ?_ _) | (with_reducible refine Kd.C_drew ?_))); (case side4 => exact HC0_1.out); (case side5 => repeat (first | exact (Kd.C_below HR0_2.out HB.out) | (with_reducible refine Kd.C_alloc ?_ _) | (with_reducible refine Kd.C_drewN ?_ _) | (with_reducible refine Kd.C_drew ?_))); (case side6 => exact HC0_2.out); (case side7 => repeat (first | exact (Kd.C_below HR0_3.out HB.out) | (with_reducible refine Kd.C_alloc ?_ _) | (with_reducible refine Kd.C_drewN ?_ _) | (with_reducible refine Kd.C_drew ?_))); (case side8 => exact HC0_3.out); (case side9 => repeat (first | exact (Kd.R_reads' HO247.out).2.2 | (with_reducible refine Kd.C_alloc ?_ _) | (with_reducible refine Kd.C_drewN ?_ _) | (with_reducible refine Kd.C_drew ?_))); (case side10 => exact (Kd.R_reads' HO247.out).2.1); (case side11 => repeat (first | exact (Kd.C_below HR2.out HB.out) | (with_reducible refine Kd.C_alloc ?_ _) | (with_reducible refine Kd.C_drewN ?_ _) | (with_reducible refine Kd.C_drew ?_))); (case side12 => exact HC2.out); (case side13 => repeat (first | exact (Kd.R_reads' HO253.out).2.2 | (with_reducible refine Kd.C_alloc ?_ _) | (with_reducible refine Kd.C_drewN ?_ _) | (with_reducible refine Kd.C_drew ?_))); (case side14 => exact (Kd.R_reads' HO253.out).2.1); rintro e w39 ⟨v255, rfl, ho0, hb⟩; refine ⟨_, rfl, ?_⟩; have n0_ := Aside0.mk (Kd.R_elder' (by (with_reducible repeat (first | apply Kd.R_alloc | apply Kd.R_drewN | apply Kd.R_drew)); exact HO244.out) (Kd.R_base ho0) hb); have n1_ := Aside0.mk (Kd.R_elder' (by (with_reducible repeat (first | apply Kd.R_alloc | apply Kd.R_drewN | apply Kd.R_drew)); exact HO247.out) (Kd.R_base ho0) hb); have n2_ := Aside0.mk (Kd.R_elder' (by (with_reducible repeat (first | apply Kd.R_alloc | apply Kd.R_drewN | apply Kd.R_drew)); exact HO250.out) (Kd.R_base ho0) hb); have n3_ := Aside0.mk (Kd.R_elder' (by (with_reducible repeat (first | apply Kd.R_alloc | apply Kd.R_drewN | apply Kd.R_drew)); exact HO253.out) (Kd.R_base ho0) hb); have n4_ := Aside0.mk (Kd.R_lower (Kd.R_new' (Kd.R_new' (Kd.R_new' (Kd.R_new' ho0 (Kd.R_lt (by (with_reducible repeat (first | apply Kd.R_alloc | apply Kd.R_drewN | apply Kd.R_drew)); exact HO244.out))) (Kd.R_lt (by (with_reducible repeat (first | apply Kd.R_alloc | apply Kd.R_drewN | apply Kd.R_drew)); exact HO247.out))) (Kd.R_lt (by (with_reducible repeat (first | apply Kd.R_alloc | apply Kd.R_drewN | apply Kd.R_drew)); exact HO250.out))) (Kd.R_lt (by (with_reducible repeat (first | apply Kd.R_alloc | apply Kd.R_drewN | apply Kd.R_drew)); exact HO253.out))) (below_size (by repeat (first | (with_reducible first | exact HB.out | apply below_alloc | apply pw_below_drewN | apply below_drew1 | refine below_set ?_ GE234.out) | exact HB.out)))); have n5_ := Aside0.mk (blk_below (g := gb234) (o := .cells #[.slice A0_0 l0_0.length c0_0, .slice A0_1 l0_1.length c0_1, .slice A0_2 l0_2.length c0_2, .slice A0_3 l0_3.length c0_3] 24 (0, 0)) (by (with_reducible repeat (first | refine blk_drewN ?_ _ | refine blk_drew ?_ | refine blk_alloc ?_ _)); exact BK234.out) hb); have n6_ := Aside0.mk (below_step (by repeat (first | (with_reducible first | exact HB.out | apply below_alloc | apply pw_below_drewN | apply below_drew1 | refine below_set ?_ GE234.out) | exact HB.out)) hb); clear HO244; clear HO247; clear HO250; clear HO253; clear BK234; clear HB; have HO244 := n0_; have HO247 := n1_; have HO250 := n2_; have HO253 := n3_; have HO256 := n4_; have BK234 := n5_; have HB := n6_; clear n0_ n1_ n2_ n3_ n4_ n5_ n6_; (try clear hb); (try clear hb2); (try clear hk); (try clear hi); (try clear ho0); obtain ⟨Ao41, co41, eo41⟩ := Kd.R_slice HO256.out; subst eo41) | ((with_reducible refine gate_builtin (b := .append) (xs := #[.tmp 43, .tmp 48]) rfl ?_); at_builtin; refine Kd.R_append_rows (Kd.int .u8) (w0 := w) w.heap.size rfl (.tmp 43) (.tmp 48) 22 5 (.int .u8 0) 1 rfl Try.underlying22 info5 rfl (by decide) (by omega) (.slice Ao38 t251.length co38) t251 t254 _ _ _ (fun k_ => some k_ ≠ (.slice Ao30 t242.length co30 : Value).ownBlock ∧ some k_ ≠ (.slice Ao33 t245.length co33 : Value).ownBlock ∧ some k_ ≠ (.slice Ao35 t248.length co35 : Value).ownBlock ∧ some k_ ≠ (.slice Ao41 t254.length co41 : Value).ownBlock) (fun _ => False) rfl rfl ?aO ?aR (fun _ _ h => h) (fun _ h => h.elim) ?aF ?aB ?aS ?aL ?_; (case aR => repeat (first | exact (Kd.R_reads' HO256.out).2.2 | (with_reducible refine Kd.C_alloc ?_ _) | (with_reducible refine Kd.C_drewN ?_ _) | (with_reducible refine Kd.C_drew ?_))); (case aB => exact (by repeat (first | (with_reducible first | exact HB.out | apply below_alloc | apply pw_below_drewN | apply below_drew1 | refine below_set ?_ GE234.out) | exact HB.out))); (case aF => exact (fun k_ hk => ⟨Kd.fresh' (Kd.R_lt (by (with_reducible repeat (first | apply Kd.R_alloc | apply Kd.R_drewN | apply Kd.R_drew)); exact HO244.out)) k_ hk, Kd.fresh' (Kd.R_lt (by (with_reducible repeat (first | apply Kd.R_alloc | apply Kd.R_drewN | apply Kd.R_drew)); exact HO247.out)) k_ hk, Kd.fresh' (Kd.R_lt (by (with_reducible repeat (first | apply Kd.R_alloc | apply Kd.R_drewN | apply Kd.R_drew)); exact HO250.out)) k_ hk, Kd.fresh' (Kd.R_lt (by (with_reducible repeat (first | apply Kd.R_alloc | apply Kd.R_drewN | apply Kd.R_drew)); exact HO256.out)) k_ hk⟩)); (case aO => exact (by (with_reducible repeat (first | apply Kd.R_alloc | apply Kd.R_drewN | apply Kd.R_drew)); exact Kd.R_mono HO253.out (fun _ hk => ⟨hk.1.1.1.2, ⟨hk.1.1.2, ⟨hk.1.2, hk.2⟩⟩⟩))); (case aS => exact (below_size (by repeat (first | (with_reducible first | exact HB.out | apply below_alloc | apply pw_below_drewN | apply below_drew1 | refine below_set ?_ GE234.out) | exact HB.out)))); (case aL => have := LMc27.out; omega); intro v258 w40 ho hb hg hat; rw [← Ny257.out] at ho; have n0_ := Aside0.mk (blk_grown (g := gb234) (o := .cells #[.slice A0_0 l0_0.length c0_0, .slice A0_1 l0_1.length c0_1, .slice A0_2 l0_2.length c0_2, .slice A0_3 l0_3.length c0_3] 24 (0, 0)) (by (with_reducible repeat (first | refine blk_drewN ?_ _ | refine blk_drew ?_ | refine blk_alloc ?_ _)); exact BK234.out) hg (Kd.R_ne HO253.out BK234.out (by decide))); have n1_ := Aside0.mk (Kd.R_after (ok := (fun k_ => some k_ ≠ (.slice Ao33 t245.length co33 : Value).ownBlock ∧ some k_ ≠ (.slice Ao35 t248.length co35 : Value).ownBlock ∧ some k_ ≠ (.slice Ao41 t254.length co41 : Value).ownBlock)) (by (with_reducible repeat (first | apply Kd.R_alloc | apply Kd.R_drewN | apply Kd.R_drew)); exact Kd.R_mono HO244.out (fun _ hk => ⟨⟨hk.1.1.1.2, ⟨hk.1.1.2, hk.2⟩⟩, hk.1.2⟩)) hg hat); have n2_ := Aside0.mk (Kd.R_after (ok := (fun k_ => some k_ ≠ (.slice Ao30 t242.length co30 : Value).ownBlock ∧ some k_ ≠ (.slice Ao35 t248.length co35 : Value).ownBlock ∧ some k_ ≠ (.slice Ao41 t254.length co41 : Value).ownBlock)) (by (with_reducible repeat (first | apply Kd.R_alloc | apply Kd.R_drewN | apply Kd.R_drew)); exact Kd.R_mono HO247.out (fun _ hk => ⟨⟨hk.1.1.1.2, ⟨hk.1.1.2, hk.2⟩⟩, hk.1.2⟩)) hg hat); have n3_ := Aside0.mk (Kd.R_after (ok := (fun k_ => some k_ ≠ (.slice Ao30 t242.length co30 : Value).ownBlock ∧ some k_ ≠ (.slice Ao33 t245.length co33 : Value).ownBlock ∧ some k_ ≠ (.slice Ao41 t254.length co41 : Value).ownBlock)) (by (with_reducible repeat (first | apply Kd.R_alloc | apply Kd.R_drewN | apply Kd.R_drew)); exact Kd.R_mono HO250.out (fun _ hk => ⟨⟨hk.1.1.1.2, ⟨hk.1.1.2, hk.2⟩⟩, hk.1.2⟩)) hg hat); have n4_ := Aside0.mk (Kd.R_after (ok := (fun k_ => some k_ ≠ (.slice Ao30 t242.length co30 : Value).ownBlock ∧ some k_ ≠ (.slice Ao33 t245.length co33 : Value).ownBlock ∧ some k_ ≠ (.slice Ao35 t248.length co35 : Value).ownBlock)) (by (with_reducible repeat (first | apply Kd.R_alloc | apply Kd.R_drewN | apply Kd.R_drew)); exact Kd.R_mono HO256.out (fun _ hk => ⟨⟨hk.1.1.1.2, ⟨hk.1.1.2, hk.1.2⟩⟩, hk.2⟩)) hg hat); have n5_ := Aside0.mk (hb); have n6_ := Aside0.mk (ho); clear BK234; clear HO244; clear HO247; clear HO250; clear HO256; clear HB; clear HO253; have BK234 := n0_; have HO244 := n1_; have HO247 := n2_; have HO250 := n3_; have HO256 := n4_; have HB := n5_; have HO259 := n6_; clear n0_ n1_ n2_ n3_ n4_ n5_ n6_; clear ho hb hg hat))
            go_ret2
            exact ⟨_, by first | rfl | (simp [errW_none, errW_some] <;> rfl) | (simp [*, errW_none, errW_some] <;> rfl), by (with_reducible repeat (first | apply Kd.R_alloc | apply Kd.R_drewN | apply Kd.R_drew)); exact Kd.R_mono HO259.out (fun _ hk => trivial), by repeat (first | (with_reducible first | exact HB.out | apply below_alloc | apply pw_below_drewN | apply below_drew1 | refine below_set ?_ GE234.out) | exact HB.out)⟩
          · rw [if_neg c27] at H
            exact absurd H (by simp)

/-! ### spec_Derive: function 69 -/
theorem spec_Derive.reads_of_cells {W : World} {ad : Addr} {xs : List Int} (hm : xs.length ≤ 9223372036854775807) (h : ∀ j (hj : j < xs.length), W.cell? (ad.add j) = some (.int .u8 xs[j])) :
    ReadsInt W .u8 (some ad) xs.length xs := by
  refine ⟨rfl, by omega, fun _ => ⟨ad, rfl, fun j hj => ?_⟩⟩
  have := h j hj
  simp [this, List.getD_eq_getElem?_getD, List.getElem?_eq_getElem hj]
theorem spec_Derive.conv_append {P : Program} {ops : Array Oper} {rest : List Oper} {o : Oper} {a : Act} {Q : Exit → Act → World → Prop}
    (hg : o.guard = none) (s x : Operand) (t : TypeId) (hop : o.op = Op.call { callee := Callee.builtin Builtin.append, args := #[s, x], argTypes := #[t, t] })
    (e : TypeId) (z : Value) (h1 : P.underlying t = some (.slice e)) (hinfo : (P.info? e).map (fun i => (i.zero, i.size, i.bytes)) = some (some z, 1, 1)) (h6 : z.cells.size = 1)
    (w0 : World) (str : ByteArray) (y : Int) (hsz : str.size ≤ 1000)
    (hs : a.eval s = .slice (some ⟨w0.heap.size, 0, none⟩) str.size (grownCap w0 str.size 0 e))
    (hx : a.eval x = .slice (some ⟨(Lib.bytesWorld w0 e str).heap.size, 0, none⟩) 1 1)
    (hK : ∀ A c w' (xs : List Int), xs = bytesOf str ++ [y] → Kd.C (Kd.int .u8) w' A xs.length xs → xs.length ≤ c → (∀ ad, A = some ad → w0.heap.size ≤ ad.block) → Below w0.heap.size w0 w' → w0.heap.size < w'.heap.size → wpList P ops Q rest (a.put o.dst (.slice A xs.length c)) w') :
    wpList P ops Q (o :: rest) a ((Lib.bytesWorld w0 e str).alloc (.cells #[.int .u8 y] e)) := by
  obtain ⟨i, h2, hzz⟩ := Option.map_eq_some_iff.1 hinfo
  simp only [Prod.mk.injEq] at hzz
  obtain ⟨h3, h4, h5⟩ := hzz
  replace hK : ∀ A c w', ReadsInt w' .u8 A (str.size + 1) (bytesOf str ++ [y]) → str.size + 1 ≤ c → (∀ ad, A = some ad → w0.heap.size ≤ ad.block) → Below w0.heap.size w0 w' → w0.heap.size < w'.heap.size → wpList P ops Q rest (a.put o.dst (.slice A (str.size + 1) c)) w' := by
    intro A c w' hr hc
    have hl : (bytesOf str ++ [y]).length = str.size + 1 := by simp [bytesOf_length]
    have := hK A c w' (bytesOf str ++ [y]) rfl (by rw [hl]; exact Kd.C_of_reads (enc := Value.int .u8) (d := 0) hr) (by rw [hl]; exact hc)
    rw [hl] at this
    exact this
  have hbs := Lib.bytesWorld_size w0 e str
  have hcell : ∀ j, j < (Lib.bytesCells w0 e str).size → ((Lib.bytesWorld w0 e str).alloc (.cells #[.int .u8 y] e)).cell? ⟨w0.heap.size, j, none⟩ = some ((Lib.bytesCells w0 e str)[j]!) := by
    intro j hj
    have : ((Lib.bytesWorld w0 e str).alloc (.cells #[.int .u8 y] e)).heap[w0.heap.size]? = some (.cells (Lib.bytesCells w0 e str) e ((Lib.bytesCells w0 e str).size, (Lib.bytesCells w0 e str).size + 1)) := by
      exact (show ((Lib.bytesWorld w0 e str).alloc _).heap[w0.heap.size]? = (Lib.bytesWorld w0 e str).heap[w0.heap.size]? from by simp only [World.alloc]; rw [Array.getElem?_push_lt (by omega)]; simp [hbs]).trans (Lib.bytesWorld_at_new w0 e str)
    simp [World.cell?, this, hj]
  have hfr : ∀ j, j < (Lib.bytesCells w0 e str).size → ((Lib.bytesWorld w0 e str).alloc (.cells #[.int .u8 y] e)).frozen? ⟨w0.heap.size, j, none⟩ = false := by
    intro j hj
    have : ((Lib.bytesWorld w0 e str).alloc (.cells #[.int .u8 y] e)).heap[w0.heap.size]? = some (.cells (Lib.bytesCells w0 e str) e ((Lib.bytesCells w0 e str).size, (Lib.bytesCells w0 e str).size + 1)) := by
      exact (show ((Lib.bytesWorld w0 e str).alloc _).heap[w0.heap.size]? = (Lib.bytesWorld w0 e str).heap[w0.heap.size]? from by simp only [World.alloc]; rw [Array.getElem?_push_lt (by omega)]; simp [hbs]).trans (Lib.bytesWorld_at_new w0 e str)
    simp [World.frozen?, this]
    intro h; omega
  have hge := grownCap_ge w0 str.size 0 e
  have hcs : (Lib.bytesCells w0 e str).size = grownCap w0 str.size 0 e := by
    have : str.data.size = str.size := rfl
    simp [Lib.bytesCells, this]; omega
  have hb0 : Below w0.heap.size w0 ((Lib.bytesWorld w0 e str).alloc (.cells #[.int .u8 y] e)) := below_alloc (bytes_below (Below.refl _ _) (Nat.le_refl _) e str) _
  have hold : ∀ j (hj : j < (bytesOf str).length), (Lib.bytesCells w0 e str)[j]! = .int .u8 (bytesOf str)[j] := by
    intro j hj
    have hj' : j < str.size := by rw [bytesOf_length] at hj; exact hj
    have hj2 : j < str.data.size := hj'
    simp [Lib.bytesCells, bytesOf, Array.getElem!_eq_getD, Array.getD_eq_getD_getElem?, Array.getElem?_append, hj']
  have hlen := bytesOf_length str
  refine wpList_append_arg _ hg s x t hop e i z 1 1 h1 h2 h3 h4 h5 h6 (by decide) w0.heap.size 0 str.size (grownCap w0 str.size 0 e) ((bytesOf str).map (.int .u8)) hs (by simp [hlen]) ?olds
    ⟨(Lib.bytesWorld w0 e str).heap.size, 0, none⟩ 1 1 [.int .u8 y] hx (by simp) ?news (by simp [Value.oneCell']) ?spare (by simp only [maxLen]; omega) (by omega) ?room ?grow
  case olds =>
    intro j u hj
    have hj' : j < (bytesOf str).length := by
      have := (List.getElem?_eq_some_iff.1 hj).1; simpa using this
    rw [Nat.zero_add, hcell j (by rw [hcs]; omega), hold j hj', ← hj]
    simp [List.getElem?_eq_getElem hj']
  case news =>
    intro j u hj
    have hj' : j = 0 := by
      have := (List.getElem?_eq_some_iff.1 hj).1; simp at this; omega
    subst hj'
    simp at hj
    subst hj
    rw [Addr.add_lit]
    have hh : ((Lib.bytesWorld w0 e str).alloc (.cells #[.int .u8 y] e)).heap[(Lib.bytesWorld w0 e str).heap.size]? = some (.cells #[.int .u8 y] e) := Array.getElem?_push_size
    unfold World.cell?
    simp only [hh]
    rfl
  case spare =>
    intro hc j hj
    simp at hj
    subst hj
    refine ⟨?_, hfr _ (by rw [hcs]; omega)⟩
    rw [hcell _ (by rw [hcs]; omega)]; rfl
  case room =>
    intro hc
    have hin := World.cell?_setCells_in w0.heap.size [.int .u8 y] (0 + str.size * 1) ((Lib.bytesWorld w0 e str).alloc (.cells #[.int .u8 y] e)) (fun j hj => by
      simp at hj; subst hj
      rw [hcell _ (by rw [hcs]; omega)]; rfl)
    refine hK _ _ _ ?_ hc (fun ad h => by cases h; exact Nat.le_refl _) ?_ ?_
    · have h := spec_Derive.reads_of_cells (W := ((Lib.bytesWorld w0 e str).alloc (.cells #[.int .u8 y] e)).setCells w0.heap.size (0 + str.size * 1) [.int .u8 y]) (ad := ⟨w0.heap.size, 0, none⟩) (xs := bytesOf str ++ [y]) (by simp [hlen]; omega) (fun j hj => by
        rw [Addr.add_lit]
        by_cases hj1 : j < (bytesOf str).length
        · rw [World.cell?_setCells_out _ _ _ _ _ (fun _ _ => Or.inl (by simp; omega)), Nat.zero_add, hcell j (by rw [hcs]; omega), hold j hj1, List.getElem_append_left hj1]
        · have hj2 : j = str.size := by simp [hlen] at hj; omega
          subst hj2
          have := hin 0 (by simp)
          simp at this
          rw [Nat.zero_add]
          simp [hlen] at this ⊢
          rw [this])
      simpa [hlen] using h
    · exact hb0.setCell (Nat.le_refl _) _
    · have := hb0.size
      have e1 : ((((Lib.bytesWorld w0 e str).alloc (.cells #[.int .u8 y] e)).setCells w0.heap.size (0 + str.size * 1) [.int .u8 y])).heap.size = ((Lib.bytesWorld w0 e str).alloc (.cells #[.int .u8 y] e)).heap.size := World.size_setCell ..
      have e2 : ((Lib.bytesWorld w0 e str).alloc (.cells #[.int .u8 y] e)).heap.size = w0.heap.size + 2 := (Array.size_push ..).trans (by rw [hbs])
      omega
  case grow =>
    intro hc v' w' ho hg'
    have e2 : ((Lib.bytesWorld w0 e str).alloc (.cells #[.int .u8 y] e)).heap.size = w0.heap.size + 2 := (Array.size_push ..).trans (by rw [hbs])
    have ho' : w'.ownsRow ((Lib.bytesWorld w0 e str).alloc (.cells #[.int .u8 y] e)).heap.size e 1 v' (str.size + 1) (nums .u8 (bytesOf str ++ [y])) := by
      rw [nums_append]; exact ho
    obtain ⟨A, c, rfl, hr⟩ := own_reads ho'
    have hle := own_le ho'
    have hbase := own_base ho'
    refine hK A c w' hr hle (fun ad h => ?_) (pw_below_grown hb0 none (by omega) hg' (by simp)) ?_
    · subst h
      rcases ho'.2 with ⟨h, _⟩ | ⟨g, cap, cur, h, hb, _⟩
      · cases h
      · cases h; simp only; omega
    · have := hg'.size; omega
def spec_Derive.l0 : Nat → List Int → ByteArray → Int → Int → List Int → Option (List Int)
  | 0, _, _, _, _, _ => none
  | k + 1, l0, a1, a2, i, o =>
    if (o.length : Int) < a2 then
      (if 0 ≤ i ∧ i < 100 ∧ o.length ≤ 1000 then (spec_l03Digest.f k l0 (bytesOf a1 ++ [i % 256])).bind fun t => if t.length ≤ 100 then spec_Derive.l0 k l0 a1 a2 (i + 1) (o ++ t) else none else none)
    else (if 0 ≤ a2 then some (o.take a2.toNat) else none)
def spec_Derive.f (k : Nat) (l0 : List Int) (a1 : ByteArray) (a2 : Int) : Option (List Int) :=
  if l0.length ≠ 16 then some [] else if 32 < a1.size then some [] else if a2 < 1 then some [] else if 64 < a2 then some [] else spec_Derive.l0 k l0 a1 a2 0 []
theorem spec_Derive.mono_l : ∀ k, (∀ y0 y1 y2 y3 y4, LeO (spec_Derive.l0 k y0 y1 y2 y3 y4) (spec_Derive.l0 (k + 1) y0 y1 y2 y3 y4))
  | 0 => fun _ _ _ _ _ r h => by simp [spec_Derive.l0] at h
  | k + 1 => by
    have ih0 := spec_Derive.mono_l k
    intro y0 y1 y2 y3 y4
    unfold spec_Derive.l0
    repeat' first
      | (with_reducible exact ih0 _ _ _ _ _)
      | (with_reducible exact spec_l03Digest.mono _ _ _)
      | (with_reducible exact LeO.refl _)
      | (with_reducible exact LeO.none _)
      | (with_reducible refine LeO.ite ?_ ?_)
      | (with_reducible refine LeO.bind ?_ (fun _ => ?_))
theorem spec_Derive.mono : ∀ a0 a1 a2 k, LeO (spec_Derive.f k a0 a1 a2) (spec_Derive.f (k + 1) a0 a1 a2) := by
  intro a0 a1 a2 k
  unfold spec_Derive.f
  repeat' first
      | (with_reducible exact spec_Derive.mono_l _ _ _ _ _ _)
      | (with_reducible exact LeO.refl _)
      | (with_reducible exact LeO.none _)
      | (with_reducible refine LeO.ite ?_ ?_)
set_option maxHeartbeats 8000000 in
set_option maxRecDepth 100000 in
theorem spec_Derive.calls (k : Nat) (A0 : Option Addr) (c0 : Nat) (l0 : List Int) (a1 : ByteArray) (a2 : Int) (r : List Int) (w : World) (hr0 : Kd.C (Kd.int .u8) w A0 l0.length l0) (hc0 : l0.length ≤ c0) (h : spec_Derive.f k l0 a1 a2 = some r) :
    Calls Try.prog 69 #[.slice A0 l0.length c0, .string a1, .int .i64 a2] w fun e w' => ∃ v0_ : Value, e = .returned (v0_) ∧ Kd.R (Kd.int .u8) 5 w' w.heap.size (fun _ => True) v0_ r ∧ Below w.heap.size w w' := by
  have HR0 := Aside0.mk hr0
  have HC0 := Aside0.mk hc0
  clear hr0 hc0
  have HB := Aside0.mk (Below.refl w.heap.size w)
  unfold spec_Derive.f at h
  by_cases c1 : l0.length ≠ 16
  · rw [if_pos c1] at h
    obtain rfl := Option.some.inj h
    have b1 : ((l0.length : Int) != 16) = true := bne_iff_ne.mpr (by omega)
    go_enter Try.func69, Try.ntmps69
    go_wp2
    go_ret
    exact ⟨_, rfl, ⟨fun _ _ => trivial, [], own_lit _ w.heap.size 5 .u8 [] (Nat.le_refl _) (by simp), Reps.none _ _⟩, below_alloc HB.out _⟩
  · rw [if_neg c1] at h
    have b1 : ((l0.length : Int) != 16) = false := bne_eq_false_iff_eq.mpr (by omega)
    by_cases c2 : 32 < a1.size
    · rw [if_pos c2] at h
      obtain rfl := Option.some.inj h
      have b2 : decide ((32 : Int) < (a1.size : Int)) = true := decide_eq_true (by omega)
      have b2n : decide (32 < a1.size) = true := decide_eq_true c2
      clear c1
      go_enter Try.func69, Try.ntmps69
      go_wp2
      go_ret
      exact ⟨_, rfl, ⟨fun _ _ => trivial, [], own_lit _ w.heap.size 5 .u8 [] (Nat.le_refl _) (by simp), Reps.none _ _⟩, below_alloc HB.out _⟩
    · rw [if_neg c2] at h
      have b2 : decide ((32 : Int) < (a1.size : Int)) = false := decide_eq_false (by omega)
      have b2n : decide (32 < a1.size) = false := decide_eq_false c2
      by_cases c3 : a2 < 1
      · rw [if_pos c3] at h
        obtain rfl := Option.some.inj h
        have b3 : decide (a2 < 1) = true := decide_eq_true c3
        clear c1
        go_enter Try.func69, Try.ntmps69
        go_wp2
        go_ret
        exact ⟨_, rfl, ⟨fun _ _ => trivial, [], own_lit _ w.heap.size 5 .u8 [] (Nat.le_refl _) (by simp), Reps.none _ _⟩, below_alloc HB.out _⟩
      · rw [if_neg c3] at h
        have b3 : decide (a2 < 1) = false := decide_eq_false c3
        by_cases c4 : 64 < a2
        · rw [if_pos c4] at h
          obtain rfl := Option.some.inj h
          have b4 : decide (64 < a2) = true := decide_eq_true c4
          clear c1
          go_enter Try.func69, Try.ntmps69
          go_wp2
          go_ret
          exact ⟨_, rfl, ⟨fun _ _ => trivial, [], own_lit _ w.heap.size 5 .u8 [] (Nat.le_refl _) (by simp), Reps.none _ _⟩, below_alloc HB.out _⟩
        · rw [if_neg c4] at h
          have b4 : decide (64 < a2) = false := decide_eq_false c4
          have HD := Aside0.mk h
          have HL := Aside0.mk (show l0.length = 16 from by omega)
          have HS := Aside0.mk (show a1.size ≤ 32 from by omega)
          have h1 : 1 ≤ a2 := by omega
          have h64 : a2 ≤ 64 := by omega
          clear h c1
          go_enter Try.func69, Try.ntmps69
          go_wp2
          obtain ⟨W1, hW1⟩ : ∃ W_ : World, W_ = w.alloc (.cells #[] 5) := ⟨_, rfl⟩
          have HO1 : Aside0 (Kd.R (Kd.int .u8) 5 W1 w.heap.size (fun _ => True) (.slice (some ⟨w.heap.size, 0, none⟩) 0 0) []) := ⟨by
            rw [hW1]
            exact ⟨fun k hk => trivial, [], own_lit w w.heap.size 5 .u8 [] (Nat.le_refl _) (by simp), Reps.none _ _⟩⟩
          have HB1 : Aside0 (Below w.heap.size w W1) := ⟨by rw [hW1]; exact below_alloc HB.out _⟩
          rw [← hW1]
          clear hW1
          go_loopg [7, 8] k (fun kq v7 v8 w' => ∃ (vo : Value) (o : List Int) (i : Int), v7 = vo ∧ v8 = .int .i64 i ∧ Aside0 (spec_Derive.l0 kq l0 a1 a2 i o = some r) ∧ Aside0 (kq ≤ k) ∧ Aside0 (Kd.R (Kd.int .u8) 5 w' w.heap.size (fun _ => True) vo o) ∧ Aside0 (Below w.heap.size w w'))
          case atStart => exact ⟨_, [], 0, rfl, rfl, HD, ⟨Nat.le_refl _⟩, HO1, HB1⟩
          case round =>
            obtain ⟨vo, o, i, rfl, rfl, HA, HK, HO, HBr⟩ := hrel
            cases gk with
            | zero => exact absurd HA.out (by simp [spec_Derive.l0])
            | succ m =>
            obtain ⟨Ao, co, rfl⟩ := Kd.R_slice HO.out
            have ha := HA.out
            clear HA
            simp only [spec_Derive.l0] at ha
            by_cases d1 : (o.length : Int) < a2
            · rw [if_pos d1] at ha
              have e1 : decide ((o.length : Int) < a2) = true := decide_eq_true d1
              by_cases d2 : 0 ≤ i ∧ i < 100 ∧ o.length ≤ 1000
              · rw [if_pos d2] at ha
                obtain ⟨d3, d4, d5⟩ := d2
                obtain ⟨t, ht, ha⟩ := Option.bind_eq_some_iff.1 ha
                by_cases d6 : t.length ≤ 100
                · rw [if_pos d6] at ha
                  have HA := Aside0.mk ha
                  have HT := Aside0.mk ht
                  clear ha
                  have kb := fun W => print_bytes (P := Try.prog) 9 22 5 Try.underlying9 Try.underlying22 Try.underlying5 a1 W
                  go_wp2_with (first | ((with_reducible refine gate_builtin (b := .append) (xs := #[.tmp 36, .tmp 39]) rfl ?_); at_builtin; refine spec_Derive.conv_append rfl (.tmp 36) (.tmp 39) 22 rfl 5 (.int .u8 0) Try.underlying22 info5 rfl _ a1 _ (by have := HS.out; omega) rfl rfl ?_; intro A1 c1 w1 xs hxs hC hc hfar hb hlt; have hxs1 := Aside0.mk hxs; have hC1 := Aside0.mk hC; have hc1 := Aside0.mk hc; have hb1 := Aside0.mk hb; clear hxs hC hc hb hfar hlt) | fail)
                  have hxs := hxs1.out
                  have hC := hC1.out
                  have hc := hc1.out
                  have hb := hb1.out
                  rw [show i % 256 = i by omega, ← hxs] at ht
                  have HT1 := Aside0.mk ht
                  have HB2 := Aside0.mk (below_then HBr.out HBr.out.size hb)
                  have HX1 := Aside0.mk hC
                  have HX2 := Aside0.mk hc
                  have HO2 := Aside0.mk (Kd.R_below HO.out hb)
                  have HR2 := Aside0.mk (Kd.C_below HR0.out (below_then HBr.out HBr.out.size hb))
                  clear ht hxs hC hc hb kb HO HBr HT hxs1 hC1 hc1 hb1
                  go_wp2_with (fail)
                  refine (spec_l03Digest.calls m _ _ l0 _ _ xs t _ HR2.out HC0.out HX1.out HX2.out HT1.out).mono ?_
                  rintro e w2 ⟨v2, rfl, hR3, hB3⟩
                  obtain ⟨At, ct, rfl, hl3, hC3⟩ := Kd.R_reads hR3
                  have HB3 := Aside0.mk (below_then HB2.out HB2.out.size hB3)
                  have HO3 := Aside0.mk (Kd.R_below HO2.out hB3)
                  have HX3 := Aside0.mk hC3
                  clear hR3 hB3 hl3 hC3 HO2 HB2 HR2 HX1 HX2
                  go_wp2_with (first | ((with_reducible refine gate_builtin (b := .append) (xs := #[.tmp 33, .tmp 41]) rfl ?_); at_builtin; refine Kd.R_append_rows (Kd.int .u8) (w0 := w) w.heap.size rfl (.tmp 33) (.tmp 41) 22 5 (.int .u8 0) 1 rfl Try.underlying22 info5 rfl (by decide) (by omega) _ o t _ _ _ (fun _ => True) (fun _ => False) rfl rfl HO3.out HX3.out (fun _ _ h => h) (fun _ h => h.elim) (fun _ _ => trivial) HB3.out HB3.out.size (by omega) ?_))
                  intro v4 w4 ho4 hb4 hg4 hat4
                  obtain ⟨A4, c4, rfl⟩ := Kd.R_slice ho4
                  have HO4 := Aside0.mk ho4
                  have HB4 := Aside0.mk hb4
                  clear ho4 hb4 hg4 hat4 HO3 HB3 HX3
                  try go_wp2
                  go_roundg m
                  case measure => omega
                  case rel => exact ⟨_, _, _, rfl, rfl, HA, ⟨by have := HK.out; omega⟩, HO4, HB4⟩
                · rw [if_neg d6] at ha; exact absurd ha (by simp)
              · rw [if_neg d2] at ha; exact absurd ha (by simp)
            · rw [if_neg d1, if_pos (by omega)] at ha
              obtain rfl := Option.some.inj ha
              have e1 : decide ((o.length : Int) < a2) = false := decide_eq_false d1
              have hn : (o.take a2.toNat).length = a2.toNat := by rw [List.length_take]; omega
              have HX := Aside0.mk (Kd.C_take (Kd.R_reads' HO.out).2.2 (show a2.toNat ≤ o.length by omega))
              have hco := (Kd.R_reads' HO.out).2.1
              have HW5 := Aside0.mk (below_alloc HBr.out (.cells #[] 5))
              go_wp2_with (first | ((with_reducible refine gate_builtin (b := .append) (xs := #[.tmp 43, .tmp 46]) rfl ?_); at_builtin; refine Kd.R_append_rows (Kd.int .u8) (w0 := w) w.heap.size rfl (.tmp 43) (.tmp 46) 22 5 (.int .u8 0) 1 rfl Try.underlying22 info5 rfl (by decide) (by omega) _ [] (o.take a2.toNat) _ _ _ (fun _ => True) (fun _ => False) rfl rfl ?aO ?aR (fun _ _ h => h) (fun _ h => h.elim) (fun _ _ => trivial) ?aB ?aS (by simp; omega) ?_; (case aO => exact ⟨fun _ _ => trivial, [], own_lit _ w.heap.size 5 .u8 [] (HBr.out.size) (by simp), Reps.none _ _⟩); (case aR => have := Kd.C_alloc HX.out (.cells #[] 5); rw [hn] at this; exact this); (case aB => exact HW5.out); (case aS => exact HW5.out.size); intro v5 w5 ho5 hb5 hg5 hat5; have HO5 := Aside0.mk ho5; have HB5 := Aside0.mk hb5; clear ho5 hb5 hg5 hat5) | fail)
              go_ret
              exact ⟨_, rfl, by simpa using HO5.out, HB5.out⟩

/-! ### spec_l03Copy: function 78 -/
def spec_l03Copy.f (l0 : List Int) : Option (List Int) := (some (([] : List Int) : List Int)).bind fun y260 => (if y260.length + l0.length < 140737488355328 then (some (y260 ++ l0)) else (none))
set_option maxHeartbeats 8000000 in
set_option maxRecDepth 100000 in
theorem spec_l03Copy.calls (A0 : Option Addr) (c0 : Nat) (l0 : List Int) (r : List Int) (w : World) (hr0 : Kd.C (Kd.int .u8) w A0 l0.length l0) (hc0 : l0.length ≤ c0) (h : spec_l03Copy.f l0 = some r) :
    Calls Try.prog 78 #[.slice A0 l0.length c0] w fun e w' => ∃ v0_ : Value, e = .returned (v0_) ∧ Kd.R (Kd.int .u8) 5 w' w.heap.size (fun _ => True) v0_ r ∧ Below w.heap.size w w' := by
  have HR0 := Aside0.mk hr0
  have HC0 := Aside0.mk hc0
  clear hr0 hc0
  have HB := Aside0.mk (Below.refl w.heap.size w)
  have H : ((some (([] : List Int) : List Int)).bind fun y260 => (if y260.length + l0.length < 140737488355328 then (some (y260 ++ l0)) else (none))) = some r := h
  clear h
  obtain ⟨y260, hy260⟩ : ∃ y_ : List Int, y_ = (([] : List Int)) := ⟨_, rfl⟩
  replace H : (if y260.length + l0.length < 140737488355328 then (some (y260 ++ l0)) else (none)) = some r := by first | (rw [hy260]; with_reducible exact H) | (have H2_ := (Option.bind_some _ _).symm.trans H; rw [hy260]; with_reducible exact H2_) | (have H2_ := (Option.bind_some _ _).symm.trans H; with_reducible exact H2_) | with_reducible exact H | (rw [hy260]; exact H) | exact H
  have Ny260 := Aside0.mk hy260
  clear hy260
  by_cases c2 : y260.length + l0.length < 140737488355328
  · rw [if_pos c2] at H
    have LMc2 := Aside0.mk c2
    clear c2
    obtain ⟨y263, hy263⟩ : ∃ y_ : List Int, y_ = (y260 ++ l0) := ⟨_, rfl⟩
    replace H : (some y263) = some r := by first | (rw [hy263]; with_reducible exact H) | (have H2_ := (Option.bind_some _ _).symm.trans H; rw [hy263]; with_reducible exact H2_) | (have H2_ := (Option.bind_some _ _).symm.trans H; with_reducible exact H2_) | with_reducible exact H | (rw [hy263]; exact H) | exact H
    have Ny263 := Aside0.mk hy263
    clear hy263
    obtain rfl := Option.some.inj H
    go_enter Try.func78, Try.ntmps78
    go_wp2_with (first | ((with_reducible refine gate_dst (N := 3) rfl ?_); refine Kd.R_lit (Kd.int .u8) _ 5 ?hg (N := 3) ?hd (xs := ([] : List Int)) (inner := []) (ok := fun _ => True) (okp := fun _ => True) ?hr ?hp (fun _ hk => hk) trivial (Below.refl _ _) (Nat.le_refl _) (by simp) ?_; (case hd => rfl); (case hg => rfl); (case hr => first | (go_simp; done) | (go_simp; rfl)); (case hp => exact (Reps.none _ _)); intro v261 w3 ho4 hb hg_ hnew_; clear hg_ hnew_; (first | rw [← Ny260.out] at ho4 | (simp only [Int.reduceToNat] at ho4; rw [← Ny260.out] at ho4)); have n0_ := Aside0.mk (Kd.R_lower ho4 (below_size (by repeat (first | (with_reducible first | exact HB.out | apply below_alloc | apply pw_below_drewN | apply below_drew1) | exact HB.out)))); have n1_ := Aside0.mk (below_step (by repeat (first | (with_reducible first | exact HB.out | apply below_alloc | apply pw_below_drewN | apply below_drew1) | exact HB.out)) hb); clear HB; have HO262 := n0_; have HB := n1_; clear n0_ n1_; clear hb ho4) | ((with_reducible refine gate_builtin (b := .append) (xs := #[.tmp 3, .tmp 4]) rfl ?_); at_builtin; refine Kd.R_append_rows (Kd.int .u8) (w0 := w) w.heap.size rfl (.tmp 3) (.tmp 4) 22 5 (.int .u8 0) 1 rfl Try.underlying22 info5 rfl (by decide) (by omega) v261 y260 l0 _ _ _ (fun _ => True) (fun _ => False) rfl rfl ?aO ?aR (fun _ _ h => h) (fun _ h => h.elim) ?aF ?aB ?aS ?aL ?_; (case aR => repeat (first | exact (Kd.C_below HR0.out HB.out) | (with_reducible refine Kd.C_alloc ?_ _) | (with_reducible refine Kd.C_drewN ?_ _) | (with_reducible refine Kd.C_drew ?_))); (case aB => exact (by repeat (first | (with_reducible first | exact HB.out | apply below_alloc | apply pw_below_drewN | apply below_drew1) | exact HB.out))); (case aF => exact (fun _ _ => trivial)); (case aO => exact (by (with_reducible repeat (first | apply Kd.R_alloc | apply Kd.R_drewN | apply Kd.R_drew)); exact HO262.out)); (case aS => exact (below_size (by repeat (first | (with_reducible first | exact HB.out | apply below_alloc | apply pw_below_drewN | apply below_drew1) | exact HB.out)))); (case aL => have := LMc2.out; omega); intro v264 w5 ho hb hg hat; rw [← Ny263.out] at ho; have n0_ := Aside0.mk (hb); have n1_ := Aside0.mk (ho); clear HB; clear HO262; have HB := n0_; have HO265 := n1_; clear n0_ n1_; clear ho hb hg hat))
    go_ret
    exact ⟨_, by first | rfl | (simp [errW_none, errW_some] <;> rfl) | (simp [*, errW_none, errW_some] <;> rfl), by (with_reducible repeat (first | apply Kd.R_alloc | apply Kd.R_drewN | apply Kd.R_drew)); exact HO265.out, by repeat (first | (with_reducible first | exact HB.out | apply below_alloc | apply pw_below_drewN | apply below_drew1) | exact HB.out)⟩
  · rw [if_neg c2] at H
    exact absurd H (by simp)

/-! ### spec_KeysOf: function 68 -/
def spec_KeysOf.f (k : Nat) (l0 : List Int) : Option (List Int × List Int × List Int × List Int) := if (l0.length : Int) = 16 then ((spec_l03Copy.f l0).bind fun t267 => ((spec_Derive.f k l0 (⟨#[107, 101, 121]⟩ : ByteArray) 16).bind fun t270 => ((spec_Derive.f k l0 (⟨#[105, 118]⟩ : ByteArray) 8).bind fun t273 => ((spec_Derive.f k l0 (⟨#[109, 97, 115, 107]⟩ : ByteArray) 16).bind fun t276 => (some (t267, t270, t273, t276)))))) else (some (([] : List Int), ([] : List Int), ([] : List Int), ([] : List Int)))
theorem spec_KeysOf.mono : ∀ a0 k, LeO (spec_KeysOf.f k a0) (spec_KeysOf.f (k + 1) a0) := by
  intro a0 k
  unfold spec_KeysOf.f
  repeat' first
      | (with_reducible exact spec_Derive.mono _ _ _ _)
      | (with_reducible exact LeO.refl _)
      | (with_reducible exact LeO.none _)
      | (with_reducible refine LeO.ite ?_ ?_)
      | (with_reducible refine LeO.bind ?_ (fun _ => ?_))
      | exact spec_Derive.mono _ _ _ _
      | exact LeO.none _
      | refine LeO.ite ?_ ?_
      | refine LeO.bind ?_ (fun _ => ?_)
set_option maxHeartbeats 8000000 in
set_option maxRecDepth 100000 in
theorem spec_KeysOf.calls (k : Nat) (A0 : Option Addr) (c0 : Nat) (l0 : List Int) (r1 : List Int) (r2 : List Int) (r3 : List Int) (r4 : List Int) (w : World) (hr0 : Kd.C (Kd.int .u8) w A0 l0.length l0) (hc0 : l0.length ≤ c0) (h : spec_KeysOf.f k l0 = some (r1, r2, r3, r4)) :
    Calls Try.prog 68 #[.slice A0 l0.length c0] w fun e w' => ∃ v0_ v1_ v2_ v3_ : Value, e = .returned (.agg #[v0_, v1_, v2_, v3_]) ∧ Kd.R (Kd.int .u8) 5 w' w.heap.size (fun k_ => some k_ ≠ (v1_ : Value).ownBlock ∧ some k_ ≠ (v2_ : Value).ownBlock ∧ some k_ ≠ (v3_ : Value).ownBlock) v0_ r1 ∧ Kd.R (Kd.int .u8) 5 w' w.heap.size (fun k_ => some k_ ≠ (v0_ : Value).ownBlock ∧ some k_ ≠ (v2_ : Value).ownBlock ∧ some k_ ≠ (v3_ : Value).ownBlock) v1_ r2 ∧ Kd.R (Kd.int .u8) 5 w' w.heap.size (fun k_ => some k_ ≠ (v0_ : Value).ownBlock ∧ some k_ ≠ (v1_ : Value).ownBlock ∧ some k_ ≠ (v3_ : Value).ownBlock) v2_ r3 ∧ Kd.R (Kd.int .u8) 5 w' w.heap.size (fun k_ => some k_ ≠ (v0_ : Value).ownBlock ∧ some k_ ≠ (v1_ : Value).ownBlock ∧ some k_ ≠ (v2_ : Value).ownBlock) v3_ r4 ∧ Below w.heap.size w w' := by
  have hu24 := Try.underlying24
  have HR0 := Aside0.mk hr0
  have HC0 := Aside0.mk hc0
  clear hr0 hc0
  have HB := Aside0.mk (Below.refl w.heap.size w)
  have H : (if (l0.length : Int) = 16 then ((spec_l03Copy.f l0).bind fun t267 => ((spec_Derive.f k l0 (⟨#[107, 101, 121]⟩ : ByteArray) 16).bind fun t270 => ((spec_Derive.f k l0 (⟨#[105, 118]⟩ : ByteArray) 8).bind fun t273 => ((spec_Derive.f k l0 (⟨#[109, 97, 115, 107]⟩ : ByteArray) 16).bind fun t276 => (some (t267, t270, t273, t276)))))) else (some (([] : List Int), ([] : List Int), ([] : List Int), ([] : List Int)))) = some (r1, r2, r3, r4) := h
  clear h
  by_cases c2 : (l0.length : Int) = 16
  · rw [if_pos c2] at H
    have c2b0 : ((l0.length : Int) == 16) = true := beq_iff_eq.mpr c2
    have c2b1 : ((l0.length : Int) != 16) = false := bne_eq_false_iff_eq.mpr c2
    clear c2
    replace H := Option.bind_eq_some_iff.mp H
    obtain ⟨t267, A30, H⟩ := H
    replace H : ((spec_Derive.f k l0 (⟨#[107, 101, 121]⟩ : ByteArray) 16).bind fun t270 => ((spec_Derive.f k l0 (⟨#[105, 118]⟩ : ByteArray) 8).bind fun t273 => ((spec_Derive.f k l0 (⟨#[109, 97, 115, 107]⟩ : ByteArray) 16).bind fun t276 => (some (t267, t270, t273, t276))))) = some (r1, r2, r3, r4) := H
    have A3 := Aside0.mk A30
    clear A30
    replace H := Option.bind_eq_some_iff.mp H
    obtain ⟨t270, A40, H⟩ := H
    replace H : ((spec_Derive.f k l0 (⟨#[105, 118]⟩ : ByteArray) 8).bind fun t273 => ((spec_Derive.f k l0 (⟨#[109, 97, 115, 107]⟩ : ByteArray) 16).bind fun t276 => (some (t267, t270, t273, t276)))) = some (r1, r2, r3, r4) := H
    have A4 := Aside0.mk A40
    clear A40
    replace H := Option.bind_eq_some_iff.mp H
    obtain ⟨t273, A50, H⟩ := H
    replace H : ((spec_Derive.f k l0 (⟨#[109, 97, 115, 107]⟩ : ByteArray) 16).bind fun t276 => (some (t267, t270, t273, t276))) = some (r1, r2, r3, r4) := H
    have A5 := Aside0.mk A50
    clear A50
    replace H := Option.bind_eq_some_iff.mp H
    obtain ⟨t276, A60, H⟩ := H
    replace H : (some (t267, t270, t273, t276)) = some (r1, r2, r3, r4) := H
    have A6 := Aside0.mk A60
    clear A60
    simp only [Option.some.injEq, Prod.mk.injEq] at H
    obtain ⟨rfl, rfl, rfl, rfl⟩ := H
    go_enter Try.func68, Try.ntmps68
    go_wp2_with (first | ((with_reducible refine gate_dst (N := 2) rfl ?_); refine box_event ?hg (N := 2) ?hd (cs := #[.slice none 0 0, .slice none 0 0, .slice none 0 0, .slice none 0 0]) (t := 24) ?hr ?_; (case hd => rfl); (case hg => rfl); (case hr => first | (go_simp; done) | (go_simp; rfl)); intro gb266 hg w7 hbox hb; have n0_ := Aside0.mk (below_step (by repeat (first | (with_reducible first | exact HB.out | apply below_alloc | apply pw_below_drewN | apply below_drew1) | exact HB.out)) hb); have n1_ := Aside0.mk (hbox); have n2_ := Aside0.mk ((by rw [hg]; exact (below_size (by repeat (first | (with_reducible first | exact HB.out | apply below_alloc | apply pw_below_drewN | apply below_drew1) | exact HB.out))) : w.heap.size ≤ gb266)); have n3_ := Aside0.mk ((by rw [hg]; exact (below_size (by repeat (first | (with_reducible first | exact HB.out | apply below_alloc | apply pw_below_drewN | apply below_drew1) | exact HB.out))) : w.heap.size ≤ gb266)); clear HB; have HB := n0_; have BK266 := n1_; have GW266 := n2_; have GE266 := n3_; clear n0_ n1_ n2_ n3_; clear hb hbox hg) | ((with_reducible refine gate_callee (f := 78) rfl ?_); refine goesL_ (some 8) rfl rfl Try.func78 (by kernel_rfl) rfl #[.slice A0 l0.length c0] rfl (by (try simp only [List.map_toArray, List.map_cons, List.map_nil]); first | done | rfl | (simp only [List.length_drop, List.length_take]; rfl)) ?_; (with_reducible refine (spec_l03Copy.calls _ _ l0 t267 _ ?side1 ?side2 A3.out).mono ?_); (case side1 => repeat (first | exact (Kd.C_below HR0.out HB.out) | (with_reducible refine Kd.C_alloc ?_ _) | (with_reducible refine Kd.C_drewN ?_ _) | (with_reducible refine Kd.C_drew ?_))); (case side2 => exact HC0.out); rintro e w8 ⟨v268, rfl, ho0, hb⟩; refine ⟨_, rfl, ?_⟩; have n0_ := Aside0.mk (Kd.R_lower ho0 (below_size (by repeat (first | (with_reducible first | exact HB.out | apply below_alloc | apply pw_below_drewN | apply below_drew1 | refine below_set ?_ GE266.out) | exact HB.out)))); have n1_ := Aside0.mk (blk_below (g := gb266) (o := .cells #[.slice none 0 0, .slice none 0 0, .slice none 0 0, .slice none 0 0] 24 (0, 0)) (by (with_reducible repeat (first | refine blk_drewN ?_ _ | refine blk_drew ?_ | refine blk_alloc ?_ _)); exact BK266.out) hb); have n2_ := Aside0.mk (below_step (by repeat (first | (with_reducible first | exact HB.out | apply below_alloc | apply pw_below_drewN | apply below_drew1 | refine below_set ?_ GE266.out) | exact HB.out)) hb); clear BK266; clear HB; have HO269 := n0_; have BK266 := n1_; have HB := n2_; clear n0_ n1_ n2_; (try clear hb); (try clear hb2); (try clear hk); (try clear hi); (try clear ho0)) | ((with_reducible refine gate_callee (f := 69) rfl ?_); refine goesL_ (some 10) rfl rfl Try.func69 (by kernel_rfl) rfl #[.slice A0 l0.length c0, .string (⟨#[107, 101, 121]⟩ : ByteArray), .int .i64 16] rfl (by (try simp only [List.map_toArray, List.map_cons, List.map_nil]); first | done | rfl | (simp only [List.length_drop, List.length_take]; rfl)) ?_; (with_reducible refine (spec_Derive.calls k _ _ l0 (⟨#[107, 101, 121]⟩ : ByteArray) 16 t270 _ ?side1 ?side2 A4.out).mono ?_); (case side1 => repeat (first | exact (Kd.C_below HR0.out HB.out) | (with_reducible refine Kd.C_alloc ?_ _) | (with_reducible refine Kd.C_drewN ?_ _) | (with_reducible refine Kd.C_drew ?_))); (case side2 => exact HC0.out); rintro e w9 ⟨v271, rfl, ho0, hb⟩; refine ⟨_, rfl, ?_⟩; have n0_ := Aside0.mk (Kd.R_elder' (by (with_reducible repeat (first | apply Kd.R_alloc | apply Kd.R_drewN | apply Kd.R_drew)); exact HO269.out) (Kd.R_base ho0) hb); have n1_ := Aside0.mk (Kd.R_lower (Kd.R_new' ho0 (Kd.R_lt (by (with_reducible repeat (first | apply Kd.R_alloc | apply Kd.R_drewN | apply Kd.R_drew)); exact HO269.out))) (below_size (by repeat (first | (with_reducible first | exact HB.out | apply below_alloc | apply pw_below_drewN | apply below_drew1 | refine below_set ?_ GE266.out) | exact HB.out)))); have n2_ := Aside0.mk (blk_below (g := gb266) (o := .cells #[.slice none 0 0, .slice none 0 0, .slice none 0 0, .slice none 0 0] 24 (0, 0)) (by (with_reducible repeat (first | refine blk_drewN ?_ _ | refine blk_drew ?_ | refine blk_alloc ?_ _)); exact BK266.out) hb); have n3_ := Aside0.mk (below_step (by repeat (first | (with_reducible first | exact HB.out | apply below_alloc | apply pw_below_drewN | apply below_drew1 | refine below_set ?_ GE266.out) | exact HB.out)) hb); clear HO269; clear BK266; clear HB; have HO269 := n0_; have HO272 := n1_; have BK266 := n2_; have HB := n3_; clear n0_ n1_ n2_ n3_; (try clear hb); (try clear hb2); (try clear hk); (try clear hi); (try clear ho0)) | ((with_reducible refine gate_callee (f := 69) rfl ?_); refine goesL_ (some 12) rfl rfl Try.func69 (by kernel_rfl) rfl #[.slice A0 l0.length c0, .string (⟨#[105, 118]⟩ : ByteArray), .int .i64 8] rfl (by (try simp only [List.map_toArray, List.map_cons, List.map_nil]); first | done | rfl | (simp only [List.length_drop, List.length_take]; rfl)) ?_; (with_reducible refine (spec_Derive.calls k _ _ l0 (⟨#[105, 118]⟩ : ByteArray) 8 t273 _ ?side1 ?side2 A5.out).mono ?_); (case side1 => repeat (first | exact (Kd.C_below HR0.out HB.out) | (with_reducible refine Kd.C_alloc ?_ _) | (with_reducible refine Kd.C_drewN ?_ _) | (with_reducible refine Kd.C_drew ?_))); (case side2 => exact HC0.out); rintro e w10 ⟨v274, rfl, ho0, hb⟩; refine ⟨_, rfl, ?_⟩; have n0_ := Aside0.mk (Kd.R_elder' (by (with_reducible repeat (first | apply Kd.R_alloc | apply Kd.R_drewN | apply Kd.R_drew)); exact HO269.out) (Kd.R_base ho0) hb); have n1_ := Aside0.mk (Kd.R_elder' (by (with_reducible repeat (first | apply Kd.R_alloc | apply Kd.R_drewN | apply Kd.R_drew)); exact HO272.out) (Kd.R_base ho0) hb); have n2_ := Aside0.mk (Kd.R_lower (Kd.R_new' (Kd.R_new' ho0 (Kd.R_lt (by (with_reducible repeat (first | apply Kd.R_alloc | apply Kd.R_drewN | apply Kd.R_drew)); exact HO269.out))) (Kd.R_lt (by (with_reducible repeat (first | apply Kd.R_alloc | apply Kd.R_drewN | apply Kd.R_drew)); exact HO272.out))) (below_size (by repeat (first | (with_reducible first | exact HB.out | apply below_alloc | apply pw_below_drewN | apply below_drew1 | refine below_set ?_ GE266.out) | exact HB.out)))); have n3_ := Aside0.mk (blk_below (g := gb266) (o := .cells #[.slice none 0 0, .slice none 0 0, .slice none 0 0, .slice none 0 0] 24 (0, 0)) (by (with_reducible repeat (first | refine blk_drewN ?_ _ | refine blk_drew ?_ | refine blk_alloc ?_ _)); exact BK266.out) hb); have n4_ := Aside0.mk (below_step (by repeat (first | (with_reducible first | exact HB.out | apply below_alloc | apply pw_below_drewN | apply below_drew1 | refine below_set ?_ GE266.out) | exact HB.out)) hb); clear HO269; clear HO272; clear BK266; clear HB; have HO269 := n0_; have HO272 := n1_; have HO275 := n2_; have BK266 := n3_; have HB := n4_; clear n0_ n1_ n2_ n3_ n4_; (try clear hb); (try clear hb2); (try clear hk); (try clear hi); (try clear ho0)) | ((with_reducible refine gate_callee (f := 69) rfl ?_); refine goesL_ (some 14) rfl rfl Try.func69 (by kernel_rfl) rfl #[.slice A0 l0.length c0, .string (⟨#[109, 97, 115, 107]⟩ : ByteArray), .int .i64 16] rfl (by (try simp only [List.map_toArray, List.map_cons, List.map_nil]); first | done | rfl | (simp only [List.length_drop, List.length_take]; rfl)) ?_; (with_reducible refine (spec_Derive.calls k _ _ l0 (⟨#[109, 97, 115, 107]⟩ : ByteArray) 16 t276 _ ?side1 ?side2 A6.out).mono ?_); (case side1 => repeat (first | exact (Kd.C_below HR0.out HB.out) | (with_reducible refine Kd.C_alloc ?_ _) | (with_reducible refine Kd.C_drewN ?_ _) | (with_reducible refine Kd.C_drew ?_))); (case side2 => exact HC0.out); rintro e w11 ⟨v277, rfl, ho0, hb⟩; refine ⟨_, rfl, ?_⟩; have n0_ := Aside0.mk (Kd.R_elder' (by (with_reducible repeat (first | apply Kd.R_alloc | apply Kd.R_drewN | apply Kd.R_drew)); exact HO269.out) (Kd.R_base ho0) hb); have n1_ := Aside0.mk (Kd.R_elder' (by (with_reducible repeat (first | apply Kd.R_alloc | apply Kd.R_drewN | apply Kd.R_drew)); exact HO272.out) (Kd.R_base ho0) hb); have n2_ := Aside0.mk (Kd.R_elder' (by (with_reducible repeat (first | apply Kd.R_alloc | apply Kd.R_drewN | apply Kd.R_drew)); exact HO275.out) (Kd.R_base ho0) hb); have n3_ := Aside0.mk (Kd.R_lower (Kd.R_new' (Kd.R_new' (Kd.R_new' ho0 (Kd.R_lt (by (with_reducible repeat (first | apply Kd.R_alloc | apply Kd.R_drewN | apply Kd.R_drew)); exact HO269.out))) (Kd.R_lt (by (with_reducible repeat (first | apply Kd.R_alloc | apply Kd.R_drewN | apply Kd.R_drew)); exact HO272.out))) (Kd.R_lt (by (with_reducible repeat (first | apply Kd.R_alloc | apply Kd.R_drewN | apply Kd.R_drew)); exact HO275.out))) (below_size (by repeat (first | (with_reducible first | exact HB.out | apply below_alloc | apply pw_below_drewN | apply below_drew1 | refine below_set ?_ GE266.out) | exact HB.out)))); have n4_ := Aside0.mk (blk_below (g := gb266) (o := .cells #[.slice none 0 0, .slice none 0 0, .slice none 0 0, .slice none 0 0] 24 (0, 0)) (by (with_reducible repeat (first | refine blk_drewN ?_ _ | refine blk_drew ?_ | refine blk_alloc ?_ _)); exact BK266.out) hb); have n5_ := Aside0.mk (below_step (by repeat (first | (with_reducible first | exact HB.out | apply below_alloc | apply pw_below_drewN | apply below_drew1 | refine below_set ?_ GE266.out) | exact HB.out)) hb); clear HO269; clear HO272; clear HO275; clear BK266; clear HB; have HO269 := n0_; have HO272 := n1_; have HO275 := n2_; have HO278 := n3_; have BK266 := n4_; have HB := n5_; clear n0_ n1_ n2_ n3_ n4_ n5_; (try clear hb); (try clear hb2); (try clear hk); (try clear hi); (try clear ho0); obtain ⟨Ao12, co12, eo12⟩ := Kd.R_slice HO278.out; subst eo12; obtain ⟨Ao13, co13, eo13⟩ := Kd.R_slice HO275.out; subst eo13; obtain ⟨Ao14, co14, eo14⟩ := Kd.R_slice HO272.out; subst eo14; obtain ⟨Ao15, co15, eo15⟩ := Kd.R_slice HO269.out; subst eo15; have hcz16_0 : w11.cell? ⟨gb266, 0, none⟩ = some (.slice none 0 0) := (blk_cell BK266.out 0).trans rfl; have hcz16_1 : w11.cell? ⟨gb266, 1, none⟩ = some (.slice none 0 0) := (blk_cell BK266.out 1).trans rfl; have hcz16_2 : w11.cell? ⟨gb266, 2, none⟩ = some (.slice none 0 0) := (blk_cell BK266.out 2).trans rfl; have hcz16_3 : w11.cell? ⟨gb266, 3, none⟩ = some (.slice none 0 0) := (blk_cell BK266.out 3).trans rfl; have hfz16_0 := blk_frozen BK266.out 0; have hfz16_1 := blk_frozen BK266.out 1; have hfz16_2 := blk_frozen BK266.out 2; have hfz16_3 := blk_frozen BK266.out 3))
    refine bodyPost_ret (results_cell_row rfl _ _ gb266 24 #[.slice Ao15 t267.length co15, .slice Ao14 t270.length co14, .slice Ao13 t273.length co13, .slice Ao12 t276.length co12] (0, 0) _ rfl (by (with_reducible repeat (first | refine blk_drewN ?_ _ | refine blk_drew ?_ | refine blk_alloc ?_ _)); refine blk_put (cs := #[.slice Ao15 t267.length co15, .slice Ao14 t270.length co14, .slice Ao13 t273.length co13, .slice none 0 0]) ?_ 3 _ rfl; (with_reducible repeat (first | refine blk_drewN ?_ _ | refine blk_drew ?_ | refine blk_alloc ?_ _)); refine blk_put (cs := #[.slice Ao15 t267.length co15, .slice Ao14 t270.length co14, .slice none 0 0, .slice none 0 0]) ?_ 2 _ rfl; (with_reducible repeat (first | refine blk_drewN ?_ _ | refine blk_drew ?_ | refine blk_alloc ?_ _)); refine blk_put (cs := #[.slice Ao15 t267.length co15, .slice none 0 0, .slice none 0 0, .slice none 0 0]) ?_ 1 _ rfl; (with_reducible repeat (first | refine blk_drewN ?_ _ | refine blk_drew ?_ | refine blk_alloc ?_ _)); refine blk_put (cs := #[.slice none 0 0, .slice none 0 0, .slice none 0 0, .slice none 0 0]) ?_ 0 _ rfl; (with_reducible repeat (first | refine blk_drewN ?_ _ | refine blk_drew ?_ | refine blk_alloc ?_ _)); exact BK266.out) Try.underlying24 rfl (by kernel_rfl)) rfl ?_
    exact ⟨_, _, _, _, by first | rfl | (simp [errW_none, errW_some] <;> rfl) | (simp [*, errW_none, errW_some] <;> rfl), by (with_reducible repeat (first | apply Kd.R_alloc | apply Kd.R_drewN | apply Kd.R_drew)); exact Kd.R_mono (Kd.R_far (p := ⟨gb266, 3, none⟩) (Kd.R_far (p := ⟨gb266, 2, none⟩) (Kd.R_far (p := ⟨gb266, 1, none⟩) (Kd.R_far (p := ⟨gb266, 0, none⟩) (Kd.R_types HO269.out BK266.out (by decide)) (fun _ hk => hk.2) (.slice Ao15 t267.length co15)) (fun _ hk => hk.2) (.slice Ao14 t270.length co14)) (fun _ hk => hk.2) (.slice Ao13 t273.length co13)) (fun _ hk => hk.2) (.slice Ao12 t276.length co12)) (fun _ hk => ⟨hk.1.1.1.2, ⟨hk.1.1.2, hk.1.2⟩⟩), by (with_reducible repeat (first | apply Kd.R_alloc | apply Kd.R_drewN | apply Kd.R_drew)); exact Kd.R_mono (Kd.R_far (p := ⟨gb266, 3, none⟩) (Kd.R_far (p := ⟨gb266, 2, none⟩) (Kd.R_far (p := ⟨gb266, 1, none⟩) (Kd.R_far (p := ⟨gb266, 0, none⟩) (Kd.R_types HO272.out BK266.out (by decide)) (fun _ hk => hk.2) (.slice Ao15 t267.length co15)) (fun _ hk => hk.2) (.slice Ao14 t270.length co14)) (fun _ hk => hk.2) (.slice Ao13 t273.length co13)) (fun _ hk => hk.2) (.slice Ao12 t276.length co12)) (fun _ hk => ⟨hk.1.1.1.2, ⟨hk.1.1.2, hk.1.2⟩⟩), by (with_reducible repeat (first | apply Kd.R_alloc | apply Kd.R_drewN | apply Kd.R_drew)); exact Kd.R_mono (Kd.R_far (p := ⟨gb266, 3, none⟩) (Kd.R_far (p := ⟨gb266, 2, none⟩) (Kd.R_far (p := ⟨gb266, 1, none⟩) (Kd.R_far (p := ⟨gb266, 0, none⟩) (Kd.R_types HO275.out BK266.out (by decide)) (fun _ hk => hk.2) (.slice Ao15 t267.length co15)) (fun _ hk => hk.2) (.slice Ao14 t270.length co14)) (fun _ hk => hk.2) (.slice Ao13 t273.length co13)) (fun _ hk => hk.2) (.slice Ao12 t276.length co12)) (fun _ hk => ⟨hk.1.1.1.2, ⟨hk.1.1.2, hk.1.2⟩⟩), by (with_reducible repeat (first | apply Kd.R_alloc | apply Kd.R_drewN | apply Kd.R_drew)); exact Kd.R_mono (Kd.R_far (p := ⟨gb266, 3, none⟩) (Kd.R_far (p := ⟨gb266, 2, none⟩) (Kd.R_far (p := ⟨gb266, 1, none⟩) (Kd.R_far (p := ⟨gb266, 0, none⟩) (Kd.R_types HO278.out BK266.out (by decide)) (fun _ hk => hk.2) (.slice Ao15 t267.length co15)) (fun _ hk => hk.2) (.slice Ao14 t270.length co14)) (fun _ hk => hk.2) (.slice Ao13 t273.length co13)) (fun _ hk => hk.2) (.slice Ao12 t276.length co12)) (fun _ hk => ⟨hk.1.1.1.2, ⟨hk.1.1.2, hk.1.2⟩⟩), by repeat (first | (with_reducible first | exact HB.out | apply below_alloc | apply pw_below_drewN | apply below_drew1 | refine below_set ?_ GE266.out) | exact HB.out)⟩
  · rw [if_neg c2] at H
    have c2b0 : ((l0.length : Int) == 16) = false := beq_eq_false_iff_ne.mpr c2
    have c2b1 : ((l0.length : Int) != 16) = true := bne_iff_ne.mpr c2
    simp only [Option.some.injEq, Prod.mk.injEq] at H
    obtain ⟨rfl, rfl, rfl, rfl⟩ := H
    go_enter Try.func68, Try.ntmps68
    go_wp2_with (first | ((with_reducible refine gate_dst (N := 2) rfl ?_); refine box_event ?hg (N := 2) ?hd (cs := #[.slice none 0 0, .slice none 0 0, .slice none 0 0, .slice none 0 0]) (t := 24) ?hr ?_; (case hd => rfl); (case hg => rfl); (case hr => first | (go_simp; done) | (go_simp; rfl)); intro gb266 hg w17 hbox hb; have n0_ := Aside0.mk (below_step (by repeat (first | (with_reducible first | exact HB.out | apply below_alloc | apply pw_below_drewN | apply below_drew1) | exact HB.out)) hb); have n1_ := Aside0.mk (hbox); have n2_ := Aside0.mk ((by rw [hg]; exact (below_size (by repeat (first | (with_reducible first | exact HB.out | apply below_alloc | apply pw_below_drewN | apply below_drew1) | exact HB.out))) : w.heap.size ≤ gb266)); have n3_ := Aside0.mk ((by rw [hg]; exact (below_size (by repeat (first | (with_reducible first | exact HB.out | apply below_alloc | apply pw_below_drewN | apply below_drew1) | exact HB.out))) : w.heap.size ≤ gb266)); clear HB; have HB := n0_; have BK266 := n1_; have GW266 := n2_; have GE266 := n3_; clear n0_ n1_ n2_ n3_; clear hb hbox hg; have hcz18_0 : w17.cell? ⟨gb266, 0, none⟩ = some (.slice none 0 0) := (blk_cell BK266.out 0).trans rfl; have hcz18_1 : w17.cell? ⟨gb266, 1, none⟩ = some (.slice none 0 0) := (blk_cell BK266.out 1).trans rfl; have hcz18_2 : w17.cell? ⟨gb266, 2, none⟩ = some (.slice none 0 0) := (blk_cell BK266.out 2).trans rfl; have hcz18_3 : w17.cell? ⟨gb266, 3, none⟩ = some (.slice none 0 0) := (blk_cell BK266.out 3).trans rfl; have hfz18_0 := blk_frozen BK266.out 0; have hfz18_1 := blk_frozen BK266.out 1; have hfz18_2 := blk_frozen BK266.out 2; have hfz18_3 := blk_frozen BK266.out 3))
    refine bodyPost_ret (results_cell_row rfl _ _ gb266 24 #[.slice none 0 0, .slice none 0 0, .slice none 0 0, .slice none 0 0] (0, 0) _ rfl (by (with_reducible repeat (first | refine blk_drewN ?_ _ | refine blk_drew ?_ | refine blk_alloc ?_ _)); refine blk_put (cs := #[.slice none 0 0, .slice none 0 0, .slice none 0 0, .slice none 0 0]) ?_ 3 _ rfl; (with_reducible repeat (first | refine blk_drewN ?_ _ | refine blk_drew ?_ | refine blk_alloc ?_ _)); refine blk_put (cs := #[.slice none 0 0, .slice none 0 0, .slice none 0 0, .slice none 0 0]) ?_ 2 _ rfl; (with_reducible repeat (first | refine blk_drewN ?_ _ | refine blk_drew ?_ | refine blk_alloc ?_ _)); refine blk_put (cs := #[.slice none 0 0, .slice none 0 0, .slice none 0 0, .slice none 0 0]) ?_ 1 _ rfl; (with_reducible repeat (first | refine blk_drewN ?_ _ | refine blk_drew ?_ | refine blk_alloc ?_ _)); refine blk_put (cs := #[.slice none 0 0, .slice none 0 0, .slice none 0 0, .slice none 0 0]) ?_ 0 _ rfl; (with_reducible repeat (first | refine blk_drewN ?_ _ | refine blk_drew ?_ | refine blk_alloc ?_ _)); exact BK266.out) Try.underlying24 rfl (by kernel_rfl)) rfl ?_
    exact ⟨_, _, _, _, by first | rfl | (simp [errW_none, errW_some] <;> rfl) | (simp [*, errW_none, errW_some] <;> rfl), by first | exact Kd.R_nil _ _ _ _ _ | exact Kd.N_nil _ _ _ _ _ | exact Kd.V_nil _ _ _ _ _ | exact Kd.Q_nil _ _ _ _ _ | exact Kd.S_nil _ _ _ _ _, by first | exact Kd.R_nil _ _ _ _ _ | exact Kd.N_nil _ _ _ _ _ | exact Kd.V_nil _ _ _ _ _ | exact Kd.Q_nil _ _ _ _ _ | exact Kd.S_nil _ _ _ _ _, by first | exact Kd.R_nil _ _ _ _ _ | exact Kd.N_nil _ _ _ _ _ | exact Kd.V_nil _ _ _ _ _ | exact Kd.Q_nil _ _ _ _ _ | exact Kd.S_nil _ _ _ _ _, by first | exact Kd.R_nil _ _ _ _ _ | exact Kd.N_nil _ _ _ _ _ | exact Kd.V_nil _ _ _ _ _ | exact Kd.Q_nil _ _ _ _ _ | exact Kd.S_nil _ _ _ _ _, by repeat (first | (with_reducible first | exact HB.out | apply below_alloc | apply pw_below_drewN | apply below_drew1 | refine below_set ?_ GE266.out) | exact HB.out)⟩

/-! ### spec_l09Time: function 138 -/
def spec_l09Time.f (a0 : Int) : Option (Bool) := if a0 ≥ 0 then (some (decide (a0 ≤ 1000000000000))) else (some false)
set_option maxHeartbeats 8000000 in
set_option maxRecDepth 100000 in
theorem spec_l09Time.calls (a0 : Int) (r : Bool) (w : World) (h : spec_l09Time.f a0 = some r) :
    Calls Try.prog 138 #[.int .i64 a0] w fun e w' => e = .returned (.bool r) ∧ Drawn0 w w' := by
  have H : (if a0 ≥ 0 then (some (decide (a0 ≤ 1000000000000))) else (some false)) = some r := h
  clear h
  by_cases c2 : a0 ≥ 0
  · rw [if_pos c2] at H
    have c2b0 : decide (0 ≤ a0) = true := decide_eq_true c2
    clear c2
    obtain rfl := Option.some.inj H
    go_enter Try.func138, Try.ntmps138
    go_wp2
    go_ret
    exact ⟨by first | rfl | (simp; done) | (simp [*]; done), by repeat (first | exact Drawn0.refl _ | apply Drawn0.step)⟩
  · rw [if_neg c2] at H
    have c2b0 : decide (0 ≤ a0) = false := decide_eq_false c2
    clear c2
    obtain rfl := Option.some.inj H
    go_enter Try.func138, Try.ntmps138
    go_wp2
    go_ret
    exact ⟨by first | rfl | (simp; done) | (simp [*]; done), by repeat (first | exact Drawn0.refl _ | apply Drawn0.step)⟩

/-! ### spec_l11TokenArgs: function 75 -/
def spec_l11TokenArgs.f (l0 : List Int) (l1 : List Int) (a2 : Int) : Option (Bool) := if (l0.length : Int) = 16 then (if (l1.length : Int) ≤ 24 then ((spec_l09Time.f a2).bind fun t279 => (some t279)) else (some false)) else (some false)
set_option maxHeartbeats 8000000 in
set_option maxRecDepth 100000 in
theorem spec_l11TokenArgs.calls (A0 : Option Addr) (c0 : Nat) (l0 : List Int) (A1 : Option Addr) (c1 : Nat) (l1 : List Int) (a2 : Int) (r : Bool) (w : World) (hr0 : Kd.C (Kd.int .u8) w A0 l0.length l0) (hc0 : l0.length ≤ c0) (hr1 : Kd.C (Kd.int .u8) w A1 l1.length l1) (hc1 : l1.length ≤ c1) (h : spec_l11TokenArgs.f l0 l1 a2 = some r) :
    Calls Try.prog 75 #[.slice A0 l0.length c0, .slice A1 l1.length c1, .int .i64 a2] w fun e w' => e = .returned (.bool r) ∧ Drawn0 w w' := by
  have HR0 := Aside0.mk hr0
  have HC0 := Aside0.mk hc0
  clear hr0 hc0
  have HR1 := Aside0.mk hr1
  have HC1 := Aside0.mk hc1
  clear hr1 hc1
  have H : (if (l0.length : Int) = 16 then (if (l1.length : Int) ≤ 24 then ((spec_l09Time.f a2).bind fun t279 => (some t279)) else (some false)) else (some false)) = some r := h
  clear h
  by_cases c4 : (l0.length : Int) = 16
  · rw [if_pos c4] at H
    have c4b0 : ((l0.length : Int) == 16) = true := beq_iff_eq.mpr c4
    have c4b1 : ((l0.length : Int) != 16) = false := bne_eq_false_iff_eq.mpr c4
    clear c4
    by_cases c5 : (l1.length : Int) ≤ 24
    · rw [if_pos c5] at H
      have c5b0 : decide ((l1.length : Int) ≤ 24) = true := decide_eq_true c5
      have c5b1 : decide (l1.length ≤ 24) = true := decide_eq_true (by omega)
      clear c5
      replace H := Option.bind_eq_some_iff.mp H
      obtain ⟨t279, A60, H⟩ := H
      replace H : (some t279) = some r := H
      have A6 := Aside0.mk A60
      clear A60
      obtain rfl := Option.some.inj H
      go_enter Try.func75, Try.ntmps75
      go_wp2_with (first | (go_at_call 138; (with_reducible refine (spec_l09Time.calls a2 t279 _ A6.out).mono ?_); rintro e w' ⟨rfl, ⟨nd, rfl⟩⟩))
      go_ret
      exact ⟨by first | rfl | (simp; done) | (simp [*]; done), by repeat (first | exact Drawn0.refl _ | apply Drawn0.step)⟩
    · rw [if_neg c5] at H
      have c5b0 : decide ((l1.length : Int) ≤ 24) = false := decide_eq_false c5
      have c5b1 : decide (l1.length ≤ 24) = false := decide_eq_false (by omega)
      clear c5
      obtain rfl := Option.some.inj H
      go_enter Try.func75, Try.ntmps75
      go_wp2
      go_ret
      exact ⟨by first | rfl | (simp; done) | (simp [*]; done), by repeat (first | exact Drawn0.refl _ | apply Drawn0.step)⟩
  · rw [if_neg c4] at H
    have c4b0 : ((l0.length : Int) == 16) = false := beq_eq_false_iff_ne.mpr c4
    have c4b1 : ((l0.length : Int) != 16) = true := bne_iff_ne.mpr c4
    obtain rfl := Option.some.inj H
    go_enter Try.func75, Try.ntmps75
    go_wp2
    go_ret
    exact ⟨by first | rfl | (simp; done) | (simp [*]; done), by repeat (first | exact Drawn0.refl _ | apply Drawn0.step)⟩

end Go.Proofs.Ytolpikjbdfpdcaa.PFnExactTokenMake
