-- Written by a program of this repo (xprint.py) out of the translation; Lean checks it.
import Derived.Test.YtjhcphcjpndciaaPFnExactEncoderOKx0
import Derived.Test.YtjhcphcjpndciaaPFnExactEncoderOKx6
namespace Go.Proofs.Ytjhcphcjpndciaa.PFnExactEncoderOK
open Go.RowKit Go.Proofs.YtjhcphcjpndciaaW.PrintWords Go.Proofs.YtjhcphcjpndciaaW.PrintLast Go.Proofs.YtjhcphcjpndciaaW.PrintMore
attribute [local go_sem] max2_int min2_int max_two min_two max_three min_three max_four min_four   -- for this text's walks alone
set_option linter.unusedVariables false
set_option linter.unusedSimpArgs false

/-! ### impl_EncoderOK: function 56 -/
mutual
def impl_EncoderOK.j0 : Nat → Bool → Int → Int → Int → List (S23) → Int → Int → List (S153) → Option (Bool)
  | 0, _, _, _, _, _, _, _, _ => none
  | k + 1, x37, x171000, x171001, x171002, x171003, x171004, x171005, x171006 => if x37 = true then (some false) else (impl_EncoderOK.l0 k x171006 (x171006.length : Int) 0 x171000 x171001 x171002 x171003 x171004 x171005 x171006)
def impl_EncoderOK.l0 : Nat → List (S153) → Int → Int → Int → Int → Int → List (S23) → Int → Int → List (S153) → Option (Bool)
  | 0, _, _, _, _, _, _, _, _, _, _ => none
  | k + 1, x39, x40, x41, x171000, x171001, x171002, x171003, x171004, x171005, x171006 => if x41 < x40 then (if 0 ≤ x41 then (if x41 < (x39.length : Int) then ((impl_inVar.f ((rd_T153 x39 x41).f0)).bind fun t174 => (if t174 = true then (if ((rd_T153 x39 x41).f1) < 1 then (some false) else (if ((rd_T153 x39 x41).f1) > x171002 then (some false) else (if ((rd_T153 x39 x41).f2) < 0 then (some false) else (if ((rd_T153 x39 x41).f2) ≥ ((rd_T153 x39 x41).f1) then (some false) else (impl_EncoderOK.l0 k x39 x40 (wrap64 (x41 + 1)) x171000 x171001 x171002 x171003 x171004 x171005 x171006))))) else (some false))) else (none)) else (none)) else (some true)
end
def impl_EncoderOK.f (k : Nat) (a0_0 : Int) (a0_1 : Int) (a0_2 : Int) (l0_3 : List (S23)) (a0_4 : Int) (a0_5 : Int) (l0_6 : List (S153)) : Option (Bool) := (impl_TableOK.f k a0_0 a0_1 a0_2 l0_3).bind fun t171 => (if t171 = true then (if a0_4 < 0 then (impl_EncoderOK.j0 k true a0_0 a0_1 a0_2 l0_3 a0_4 a0_5 l0_6) else (if a0_4 > a0_2 then (impl_EncoderOK.j0 k true a0_0 a0_1 a0_2 l0_3 a0_4 a0_5 l0_6) else (if a0_5 < 0 then (impl_EncoderOK.j0 k true a0_0 a0_1 a0_2 l0_3 a0_4 a0_5 l0_6) else (if a0_5 > 64 then (impl_EncoderOK.j0 k true a0_0 a0_1 a0_2 l0_3 a0_4 a0_5 l0_6) else (impl_EncoderOK.j0 k (decide ((l0_6.length : Int) > 64)) a0_0 a0_1 a0_2 l0_3 a0_4 a0_5 l0_6))))) else (impl_EncoderOK.j0 k true a0_0 a0_1 a0_2 l0_3 a0_4 a0_5 l0_6))
theorem impl_EncoderOK.mono_l : ∀ k, (∀ y0 y1 y2 y3 y4 y5 y6 y7, LeO (impl_EncoderOK.j0 k y0 y1 y2 y3 y4 y5 y6 y7) (impl_EncoderOK.j0 (k + 1) y0 y1 y2 y3 y4 y5 y6 y7)) ∧ (∀ y0 y1 y2 y3 y4 y5 y6 y7 y8 y9, LeO (impl_EncoderOK.l0 k y0 y1 y2 y3 y4 y5 y6 y7 y8 y9) (impl_EncoderOK.l0 (k + 1) y0 y1 y2 y3 y4 y5 y6 y7 y8 y9))
  | 0 => ⟨fun _ _ _ _ _ _ _ _ r h => by simp [impl_EncoderOK.j0] at h, fun _ _ _ _ _ _ _ _ _ _ r h => by simp [impl_EncoderOK.l0] at h⟩
  | k + 1 => by
    obtain ⟨ih0, ih1⟩ := impl_EncoderOK.mono_l k
    refine ⟨?_, ?_⟩
    · intro y0 y1 y2 y3 y4 y5 y6 y7
      unfold impl_EncoderOK.j0
      repeat' first
      | (with_reducible exact ih0 _ _ _ _ _ _ _ _)
      | (with_reducible exact ih1 _ _ _ _ _ _ _ _ _ _)
      | (with_reducible exact impl_TableOK.mono _ _ _ _ _)
      | (with_reducible exact LeO.refl _)
      | (with_reducible exact LeO.none _)
      | (with_reducible refine LeO.ite ?_ ?_)
      | (with_reducible refine LeO.bind ?_ (fun _ => ?_))
      | exact ih0 _ _ _ _ _ _ _ _
      | exact ih1 _ _ _ _ _ _ _ _ _ _
      | exact impl_TableOK.mono _ _ _ _ _
      | exact LeO.none _
      | refine LeO.ite ?_ ?_
      | refine LeO.bind ?_ (fun _ => ?_)
    · intro y0 y1 y2 y3 y4 y5 y6 y7 y8 y9
      unfold impl_EncoderOK.l0
      repeat' first
      | (with_reducible exact ih0 _ _ _ _ _ _ _ _)
      | (with_reducible exact ih1 _ _ _ _ _ _ _ _ _ _)
      | (with_reducible exact impl_TableOK.mono _ _ _ _ _)
      | (with_reducible exact LeO.refl _)
      | (with_reducible exact LeO.none _)
      | (with_reducible refine LeO.ite ?_ ?_)
      | (with_reducible refine LeO.bind ?_ (fun _ => ?_))
      | exact ih0 _ _ _ _ _ _ _ _
      | exact ih1 _ _ _ _ _ _ _ _ _ _
      | exact impl_TableOK.mono _ _ _ _ _
      | exact LeO.none _
      | refine LeO.ite ?_ ?_
      | refine LeO.bind ?_ (fun _ => ?_)
theorem impl_EncoderOK.mono : ∀ a0 a1 a2 a3 a4 a5 a6 k, LeO (impl_EncoderOK.f k a0 a1 a2 a3 a4 a5 a6) (impl_EncoderOK.f (k + 1) a0 a1 a2 a3 a4 a5 a6) := by
  intro a0 a1 a2 a3 a4 a5 a6 k
  obtain ⟨ih0, ih1⟩ := impl_EncoderOK.mono_l k
  unfold impl_EncoderOK.f
  repeat' first
      | (with_reducible exact ih0 _ _ _ _ _ _ _ _)
      | (with_reducible exact ih1 _ _ _ _ _ _ _ _ _ _)
      | (with_reducible exact impl_TableOK.mono _ _ _ _ _)
      | (with_reducible exact LeO.refl _)
      | (with_reducible exact LeO.none _)
      | (with_reducible refine LeO.ite ?_ ?_)
      | (with_reducible refine LeO.bind ?_ (fun _ => ?_))
      | exact ih0 _ _ _ _ _ _ _ _
      | exact ih1 _ _ _ _ _ _ _ _ _ _
      | exact impl_TableOK.mono _ _ _ _ _
      | exact LeO.none _
      | refine LeO.ite ?_ ?_
      | refine LeO.bind ?_ (fun _ => ?_)
set_option maxHeartbeats 8000000 in
set_option maxRecDepth 100000 in
theorem impl_EncoderOK.calls (k : Nat) (a0_0 : Int) (a0_1 : Int) (a0_2 : Int) (A0_3 : Option Addr) (c0_3 : Nat) (l0_3 : List (S23)) (a0_4 : Int) (a0_5 : Int) (A0_6 : Option Addr) (c0_6 : Nat) (l0_6 : List (S153)) (r : Bool) (w : World) (hr0_3 : Kd.C k23 w A0_3 l0_3.length l0_3) (hc0_3 : l0_3.length ≤ c0_3) (hr0_6 : Kd.C k153 w A0_6 l0_6.length l0_6) (hc0_6 : l0_6.length ≤ c0_6) (h : impl_EncoderOK.f k a0_0 a0_1 a0_2 l0_3 a0_4 a0_5 l0_6 = some r) :
    Calls Try.prog 56 #[.agg #[.int .i64 a0_0, .int .i64 a0_1, .int .i64 a0_2, .slice A0_3 l0_3.length c0_3, .int .i64 a0_4, .int .i64 a0_5, .slice A0_6 l0_6.length c0_6]] w fun e w' => e = .returned (.bool r) ∧ Below w.heap.size w w' := by
  have hu90 := Try.underlying90
  have hu69 := Try.underlying69
  have hu153 := Try.underlying153
  have HR0_3 := Aside0.mk hr0_3
  have HC0_3 := Aside0.mk hc0_3
  clear hr0_3 hc0_3
  have HR0_6 := Aside0.mk hr0_6
  have HC0_6 := Aside0.mk hc0_6
  clear hr0_6 hc0_6
  have HB := Aside0.mk (Below.refl w.heap.size w)
  have H : ((impl_TableOK.f k a0_0 a0_1 a0_2 l0_3).bind fun t171 => (if t171 = true then (if a0_4 < 0 then (impl_EncoderOK.j0 k true a0_0 a0_1 a0_2 l0_3 a0_4 a0_5 l0_6) else (if a0_4 > a0_2 then (impl_EncoderOK.j0 k true a0_0 a0_1 a0_2 l0_3 a0_4 a0_5 l0_6) else (if a0_5 < 0 then (impl_EncoderOK.j0 k true a0_0 a0_1 a0_2 l0_3 a0_4 a0_5 l0_6) else (if a0_5 > 64 then (impl_EncoderOK.j0 k true a0_0 a0_1 a0_2 l0_3 a0_4 a0_5 l0_6) else (impl_EncoderOK.j0 k (decide ((l0_6.length : Int) > 64)) a0_0 a0_1 a0_2 l0_3 a0_4 a0_5 l0_6))))) else (impl_EncoderOK.j0 k true a0_0 a0_1 a0_2 l0_3 a0_4 a0_5 l0_6))) = some r := h
  clear h
  have HC2 := Aside0.mk H
  clear H
  go_enter Try.func56, Try.ntmps56
  go_upto_region 1 with (first | ((with_reducible refine gate_dst (N := 1) rfl ?_); (try (refine gate_guard (by rfl) ?_; dsimp only)); refine box_event ?hg (N := 1) ?hd (cs := #[.int .i64 a0_0, .int .i64 a0_1, .int .i64 a0_2, .slice A0_3 l0_3.length c0_3, .int .i64 a0_4, .int .i64 a0_5, .slice A0_6 l0_6.length c0_6]) (t := 90) ?hr ?_; (case hd => rfl); (case hg => rfl); (case hr => first | (go_simp; done) | (go_simp; rfl)); intro gb170 hg w3 hbox hb; have n0_ := Aside0.mk (below_step (by repeat (first | (with_reducible first | exact HB.out | apply below_alloc | apply pw_below_drewN | apply below_drew1) | exact HB.out)) hb); have n1_ := Aside0.mk (hbox); have n2_ := Aside0.mk ((by rw [hg]; exact (below_size (by repeat (first | (with_reducible first | exact HB.out | apply below_alloc | apply pw_below_drewN | apply below_drew1) | exact HB.out))) : w.heap.size ≤ gb170)); have n3_ := Aside0.mk ((by rw [hg]; exact (below_size (by repeat (first | (with_reducible first | exact HB.out | apply below_alloc | apply pw_below_drewN | apply below_drew1) | exact HB.out))) : w.heap.size ≤ gb170)); clear HB; have HB := n0_; have BK170 := n1_; have GW170 := n2_; have GE170 := n3_; clear n0_ n1_ n2_ n3_; clear hb hbox hg))
  (try simp only [Act.put, List.setIfInBounds_toArray, List.set_cons_zero, List.set_cons_succ])
  go_cut [37] (fun v37 wc => ∃ (kq : Nat) (x37_1 : Bool), v37 = .bool x37_1 ∧ Aside0 (impl_EncoderOK.j0 kq x37_1 a0_0 a0_1 a0_2 l0_3 a0_4 a0_5 l0_6 = some r) ∧ Aside0 (kq ≤ k) ∧ Aside0 (wc.heap[gb170]? = some (.cells #[.int .i64 a0_0, .int .i64 a0_1, .int .i64 a0_2, (.slice A0_3 l0_3.length c0_3), .int .i64 a0_4, .int .i64 a0_5, (.slice A0_6 l0_6.length c0_6)] 90 (0, 0))) ∧ Aside0 (Below w.heap.size w wc))
  case first =>
    have H := HC2.out
    clear HC2
    replace H := Option.bind_eq_some_iff.mp H
    obtain ⟨t171, A40, H⟩ := H
    replace H : (if t171 = true then (if a0_4 < 0 then (impl_EncoderOK.j0 k true a0_0 a0_1 a0_2 l0_3 a0_4 a0_5 l0_6) else (if a0_4 > a0_2 then (impl_EncoderOK.j0 k true a0_0 a0_1 a0_2 l0_3 a0_4 a0_5 l0_6) else (if a0_5 < 0 then (impl_EncoderOK.j0 k true a0_0 a0_1 a0_2 l0_3 a0_4 a0_5 l0_6) else (if a0_5 > 64 then (impl_EncoderOK.j0 k true a0_0 a0_1 a0_2 l0_3 a0_4 a0_5 l0_6) else (impl_EncoderOK.j0 k (decide ((l0_6.length : Int) > 64)) a0_0 a0_1 a0_2 l0_3 a0_4 a0_5 l0_6))))) else (impl_EncoderOK.j0 k true a0_0 a0_1 a0_2 l0_3 a0_4 a0_5 l0_6)) = some r := H
    have A4 := Aside0.mk A40
    clear A40
    by_cases c5 : t171 = true
    · subst c5
      have H1 : (if a0_4 < 0 then (impl_EncoderOK.j0 k true a0_0 a0_1 a0_2 l0_3 a0_4 a0_5 l0_6) else (if a0_4 > a0_2 then (impl_EncoderOK.j0 k true a0_0 a0_1 a0_2 l0_3 a0_4 a0_5 l0_6) else (if a0_5 < 0 then (impl_EncoderOK.j0 k true a0_0 a0_1 a0_2 l0_3 a0_4 a0_5 l0_6) else (if a0_5 > 64 then (impl_EncoderOK.j0 k true a0_0 a0_1 a0_2 l0_3 a0_4 a0_5 l0_6) else (impl_EncoderOK.j0 k (decide ((l0_6.length : Int) > 64)) a0_0 a0_1 a0_2 l0_3 a0_4 a0_5 l0_6))))) = some r := by rw [if_pos rfl] at H; exact H
      clear H
      have H := H1
      clear H1
      by_cases c6 : a0_4 < 0
      · rw [if_pos c6] at H
        have c6b0 : decide (a0_4 < 0) = true := decide_eq_true c6
        clear c6
        (first | rw [c6b0] | (simp only [i64_w, i32_w]; rw [c6b0]) | skip)
        have H' := Aside0.mk H
        clear H
        have hcz7_0 : w3.cell? ⟨gb170, 0, none⟩ = some (.int .i64 a0_0) := (blk_cell BK170.out 0).trans rfl
        have hcz7_1 : w3.cell? ⟨gb170, 1, none⟩ = some (.int .i64 a0_1) := (blk_cell BK170.out 1).trans rfl
        have hcz7_2 : w3.cell? ⟨gb170, 2, none⟩ = some (.int .i64 a0_2) := (blk_cell BK170.out 2).trans rfl
        have hcz7_3 : w3.cell? ⟨gb170, 3, none⟩ = some (.slice A0_3 l0_3.length c0_3) := (blk_cell BK170.out 3).trans rfl
        have hcz7_4 : w3.cell? ⟨gb170, 4, none⟩ = some (.int .i64 a0_4) := (blk_cell BK170.out 4).trans rfl
        have hcz7_5 : w3.cell? ⟨gb170, 5, none⟩ = some (.int .i64 a0_5) := (blk_cell BK170.out 5).trans rfl
        have hcz7_6 : w3.cell? ⟨gb170, 6, none⟩ = some (.slice A0_6 l0_6.length c0_6) := (blk_cell BK170.out 6).trans rfl
        have hfz7_0 := blk_frozen BK170.out 0
        have hfz7_1 := blk_frozen BK170.out 1
        have hfz7_2 := blk_frozen BK170.out 2
        have hfz7_3 := blk_frozen BK170.out 3
        have hfz7_4 := blk_frozen BK170.out 4
        have hfz7_5 := blk_frozen BK170.out 5
        have hfz7_6 := blk_frozen BK170.out 6
        go_wp2_with (first | ((with_reducible refine gate_callee (f := 41) rfl ?_); refine goesL_ (some 7) rfl rfl Try.func41 (by kernel_rfl) rfl #[.agg #[.int .i64 a0_0, .int .i64 a0_1, .int .i64 a0_2, .slice A0_3 l0_3.length c0_3]] rfl (by (try simp only [List.map_toArray, List.map_cons, List.map_nil]); first | done | rfl | (simp only [List.length_drop, List.length_take]; rfl)) ?_; (with_reducible refine (impl_TableOK.calls k a0_0 a0_1 a0_2 _ _ l0_3 true _ ?side1 ?side2 A4.out).mono ?_); (case side1 => repeat (first | exact (Kd.C_below HR0_3.out HB.out) | (with_reducible refine Kd.C_alloc ?_ _) | (with_reducible refine Kd.C_drewN ?_ _) | (with_reducible refine Kd.C_drew ?_))); (case side2 => exact HC0_3.out); rintro e w8 ⟨rfl, hb⟩; refine ⟨_, rfl, ?_⟩; have n0_ := Aside0.mk (blk_below (g := gb170) (o := .cells #[.int .i64 a0_0, .int .i64 a0_1, .int .i64 a0_2, .slice A0_3 l0_3.length c0_3, .int .i64 a0_4, .int .i64 a0_5, .slice A0_6 l0_6.length c0_6] 90 (0, 0)) (by (with_reducible repeat (first | refine blk_drewN ?_ _ | refine blk_drew ?_ | refine blk_alloc ?_ _)); exact BK170.out) hb); have n1_ := Aside0.mk (below_step (by repeat (first | (with_reducible first | exact HB.out | apply below_alloc | apply pw_below_drewN | apply below_drew1 | refine below_set ?_ GE170.out) | exact HB.out)) hb); clear BK170; clear HB; have BK170 := n0_; have HB := n1_; clear n0_ n1_; (try clear hb); (try clear hb2); (try clear hk); (try clear hi); have hcz9_0 : w8.cell? ⟨gb170, 0, none⟩ = some (.int .i64 a0_0) := (blk_cell BK170.out 0).trans rfl; have hcz9_1 : w8.cell? ⟨gb170, 1, none⟩ = some (.int .i64 a0_1) := (blk_cell BK170.out 1).trans rfl; have hcz9_2 : w8.cell? ⟨gb170, 2, none⟩ = some (.int .i64 a0_2) := (blk_cell BK170.out 2).trans rfl; have hcz9_3 : w8.cell? ⟨gb170, 3, none⟩ = some (.slice A0_3 l0_3.length c0_3) := (blk_cell BK170.out 3).trans rfl; have hcz9_4 : w8.cell? ⟨gb170, 4, none⟩ = some (.int .i64 a0_4) := (blk_cell BK170.out 4).trans rfl; have hcz9_5 : w8.cell? ⟨gb170, 5, none⟩ = some (.int .i64 a0_5) := (blk_cell BK170.out 5).trans rfl; have hcz9_6 : w8.cell? ⟨gb170, 6, none⟩ = some (.slice A0_6 l0_6.length c0_6) := (blk_cell BK170.out 6).trans rfl; have hfz9_0 := blk_frozen BK170.out 0; have hfz9_1 := blk_frozen BK170.out 1; have hfz9_2 := blk_frozen BK170.out 2; have hfz9_3 := blk_frozen BK170.out 3; have hfz9_4 := blk_frozen BK170.out 4; have hfz9_5 := blk_frozen BK170.out 5; have hfz9_6 := blk_frozen BK170.out 6))
        go_meet
        case rel => exact ⟨_, (true), (by first | rfl | (simp; done) | (simp [*]; done)), H', ⟨by first | omega | exact Nat.le_refl _⟩, ⟨by (with_reducible repeat (first | refine blk_drewN ?_ _ | refine blk_drew ?_ | refine blk_alloc ?_ _)); exact BK170.out⟩, ⟨by repeat (first | (with_reducible first | exact HB.out | apply below_alloc | apply pw_below_drewN | apply below_drew1 | refine below_set ?_ GE170.out) | exact HB.out)⟩⟩
      · rw [if_neg c6] at H
        have c6b0 : decide (a0_4 < 0) = false := decide_eq_false c6
        clear c6
        (first | rw [c6b0] | (simp only [i64_w, i32_w]; rw [c6b0]) | skip)
        by_cases c10 : a0_4 > a0_2
        · rw [if_pos c10] at H
          have c10b0 : decide (a0_2 < a0_4) = true := decide_eq_true c10
          clear c10
          have H' := Aside0.mk H
          clear H
          have hcz11_0 : w3.cell? ⟨gb170, 0, none⟩ = some (.int .i64 a0_0) := (blk_cell BK170.out 0).trans rfl
          have hcz11_1 : w3.cell? ⟨gb170, 1, none⟩ = some (.int .i64 a0_1) := (blk_cell BK170.out 1).trans rfl
          have hcz11_2 : w3.cell? ⟨gb170, 2, none⟩ = some (.int .i64 a0_2) := (blk_cell BK170.out 2).trans rfl
          have hcz11_3 : w3.cell? ⟨gb170, 3, none⟩ = some (.slice A0_3 l0_3.length c0_3) := (blk_cell BK170.out 3).trans rfl
          have hcz11_4 : w3.cell? ⟨gb170, 4, none⟩ = some (.int .i64 a0_4) := (blk_cell BK170.out 4).trans rfl
          have hcz11_5 : w3.cell? ⟨gb170, 5, none⟩ = some (.int .i64 a0_5) := (blk_cell BK170.out 5).trans rfl
          have hcz11_6 : w3.cell? ⟨gb170, 6, none⟩ = some (.slice A0_6 l0_6.length c0_6) := (blk_cell BK170.out 6).trans rfl
          have hfz11_0 := blk_frozen BK170.out 0
          have hfz11_1 := blk_frozen BK170.out 1
          have hfz11_2 := blk_frozen BK170.out 2
          have hfz11_3 := blk_frozen BK170.out 3
          have hfz11_4 := blk_frozen BK170.out 4
          have hfz11_5 := blk_frozen BK170.out 5
          have hfz11_6 := blk_frozen BK170.out 6
          go_wp2_with (first | ((with_reducible refine gate_callee (f := 41) rfl ?_); refine goesL_ (some 7) rfl rfl Try.func41 (by kernel_rfl) rfl #[.agg #[.int .i64 a0_0, .int .i64 a0_1, .int .i64 a0_2, .slice A0_3 l0_3.length c0_3]] rfl (by (try simp only [List.map_toArray, List.map_cons, List.map_nil]); first | done | rfl | (simp only [List.length_drop, List.length_take]; rfl)) ?_; (with_reducible refine (impl_TableOK.calls k a0_0 a0_1 a0_2 _ _ l0_3 true _ ?side1 ?side2 A4.out).mono ?_); (case side1 => repeat (first | exact (Kd.C_below HR0_3.out HB.out) | (with_reducible refine Kd.C_alloc ?_ _) | (with_reducible refine Kd.C_drewN ?_ _) | (with_reducible refine Kd.C_drew ?_))); (case side2 => exact HC0_3.out); rintro e w12 ⟨rfl, hb⟩; refine ⟨_, rfl, ?_⟩; have n0_ := Aside0.mk (blk_below (g := gb170) (o := .cells #[.int .i64 a0_0, .int .i64 a0_1, .int .i64 a0_2, .slice A0_3 l0_3.length c0_3, .int .i64 a0_4, .int .i64 a0_5, .slice A0_6 l0_6.length c0_6] 90 (0, 0)) (by (with_reducible repeat (first | refine blk_drewN ?_ _ | refine blk_drew ?_ | refine blk_alloc ?_ _)); exact BK170.out) hb); have n1_ := Aside0.mk (below_step (by repeat (first | (with_reducible first | exact HB.out | apply below_alloc | apply pw_below_drewN | apply below_drew1 | refine below_set ?_ GE170.out) | exact HB.out)) hb); clear BK170; clear HB; have BK170 := n0_; have HB := n1_; clear n0_ n1_; (try clear hb); (try clear hb2); (try clear hk); (try clear hi); have hcz13_0 : w12.cell? ⟨gb170, 0, none⟩ = some (.int .i64 a0_0) := (blk_cell BK170.out 0).trans rfl; have hcz13_1 : w12.cell? ⟨gb170, 1, none⟩ = some (.int .i64 a0_1) := (blk_cell BK170.out 1).trans rfl; have hcz13_2 : w12.cell? ⟨gb170, 2, none⟩ = some (.int .i64 a0_2) := (blk_cell BK170.out 2).trans rfl; have hcz13_3 : w12.cell? ⟨gb170, 3, none⟩ = some (.slice A0_3 l0_3.length c0_3) := (blk_cell BK170.out 3).trans rfl; have hcz13_4 : w12.cell? ⟨gb170, 4, none⟩ = some (.int .i64 a0_4) := (blk_cell BK170.out 4).trans rfl; have hcz13_5 : w12.cell? ⟨gb170, 5, none⟩ = some (.int .i64 a0_5) := (blk_cell BK170.out 5).trans rfl; have hcz13_6 : w12.cell? ⟨gb170, 6, none⟩ = some (.slice A0_6 l0_6.length c0_6) := (blk_cell BK170.out 6).trans rfl; have hfz13_0 := blk_frozen BK170.out 0; have hfz13_1 := blk_frozen BK170.out 1; have hfz13_2 := blk_frozen BK170.out 2; have hfz13_3 := blk_frozen BK170.out 3; have hfz13_4 := blk_frozen BK170.out 4; have hfz13_5 := blk_frozen BK170.out 5; have hfz13_6 := blk_frozen BK170.out 6))
          go_meet
          case rel => exact ⟨_, (true), (by first | rfl | (simp; done) | (simp [*]; done)), H', ⟨by first | omega | exact Nat.le_refl _⟩, ⟨by (with_reducible repeat (first | refine blk_drewN ?_ _ | refine blk_drew ?_ | refine blk_alloc ?_ _)); exact BK170.out⟩, ⟨by repeat (first | (with_reducible first | exact HB.out | apply below_alloc | apply pw_below_drewN | apply below_drew1 | refine below_set ?_ GE170.out) | exact HB.out)⟩⟩
        · rw [if_neg c10] at H
          have c10b0 : decide (a0_2 < a0_4) = false := decide_eq_false c10
          clear c10
          by_cases c14 : a0_5 < 0
          · rw [if_pos c14] at H
            have c14b0 : decide (a0_5 < 0) = true := decide_eq_true c14
            clear c14
            have H' := Aside0.mk H
            clear H
            have hcz15_0 : w3.cell? ⟨gb170, 0, none⟩ = some (.int .i64 a0_0) := (blk_cell BK170.out 0).trans rfl
            have hcz15_1 : w3.cell? ⟨gb170, 1, none⟩ = some (.int .i64 a0_1) := (blk_cell BK170.out 1).trans rfl
            have hcz15_2 : w3.cell? ⟨gb170, 2, none⟩ = some (.int .i64 a0_2) := (blk_cell BK170.out 2).trans rfl
            have hcz15_3 : w3.cell? ⟨gb170, 3, none⟩ = some (.slice A0_3 l0_3.length c0_3) := (blk_cell BK170.out 3).trans rfl
            have hcz15_4 : w3.cell? ⟨gb170, 4, none⟩ = some (.int .i64 a0_4) := (blk_cell BK170.out 4).trans rfl
            have hcz15_5 : w3.cell? ⟨gb170, 5, none⟩ = some (.int .i64 a0_5) := (blk_cell BK170.out 5).trans rfl
            have hcz15_6 : w3.cell? ⟨gb170, 6, none⟩ = some (.slice A0_6 l0_6.length c0_6) := (blk_cell BK170.out 6).trans rfl
            have hfz15_0 := blk_frozen BK170.out 0
            have hfz15_1 := blk_frozen BK170.out 1
            have hfz15_2 := blk_frozen BK170.out 2
            have hfz15_3 := blk_frozen BK170.out 3
            have hfz15_4 := blk_frozen BK170.out 4
            have hfz15_5 := blk_frozen BK170.out 5
            have hfz15_6 := blk_frozen BK170.out 6
            go_wp2_with (first | ((with_reducible refine gate_callee (f := 41) rfl ?_); refine goesL_ (some 7) rfl rfl Try.func41 (by kernel_rfl) rfl #[.agg #[.int .i64 a0_0, .int .i64 a0_1, .int .i64 a0_2, .slice A0_3 l0_3.length c0_3]] rfl (by (try simp only [List.map_toArray, List.map_cons, List.map_nil]); first | done | rfl | (simp only [List.length_drop, List.length_take]; rfl)) ?_; (with_reducible refine (impl_TableOK.calls k a0_0 a0_1 a0_2 _ _ l0_3 true _ ?side1 ?side2 A4.out).mono ?_); (case side1 => repeat (first | exact (Kd.C_below HR0_3.out HB.out) | (with_reducible refine Kd.C_alloc ?_ _) | (with_reducible refine Kd.C_drewN ?_ _) | (with_reducible refine Kd.C_drew ?_))); (case side2 => exact HC0_3.out); rintro e w16 ⟨rfl, hb⟩; refine ⟨_, rfl, ?_⟩; have n0_ := Aside0.mk (blk_below (g := gb170) (o := .cells #[.int .i64 a0_0, .int .i64 a0_1, .int .i64 a0_2, .slice A0_3 l0_3.length c0_3, .int .i64 a0_4, .int .i64 a0_5, .slice A0_6 l0_6.length c0_6] 90 (0, 0)) (by (with_reducible repeat (first | refine blk_drewN ?_ _ | refine blk_drew ?_ | refine blk_alloc ?_ _)); exact BK170.out) hb); have n1_ := Aside0.mk (below_step (by repeat (first | (with_reducible first | exact HB.out | apply below_alloc | apply pw_below_drewN | apply below_drew1 | refine below_set ?_ GE170.out) | exact HB.out)) hb); clear BK170; clear HB; have BK170 := n0_; have HB := n1_; clear n0_ n1_; (try clear hb); (try clear hb2); (try clear hk); (try clear hi); have hcz17_0 : w16.cell? ⟨gb170, 0, none⟩ = some (.int .i64 a0_0) := (blk_cell BK170.out 0).trans rfl; have hcz17_1 : w16.cell? ⟨gb170, 1, none⟩ = some (.int .i64 a0_1) := (blk_cell BK170.out 1).trans rfl; have hcz17_2 : w16.cell? ⟨gb170, 2, none⟩ = some (.int .i64 a0_2) := (blk_cell BK170.out 2).trans rfl; have hcz17_3 : w16.cell? ⟨gb170, 3, none⟩ = some (.slice A0_3 l0_3.length c0_3) := (blk_cell BK170.out 3).trans rfl; have hcz17_4 : w16.cell? ⟨gb170, 4, none⟩ = some (.int .i64 a0_4) := (blk_cell BK170.out 4).trans rfl; have hcz17_5 : w16.cell? ⟨gb170, 5, none⟩ = some (.int .i64 a0_5) := (blk_cell BK170.out 5).trans rfl; have hcz17_6 : w16.cell? ⟨gb170, 6, none⟩ = some (.slice A0_6 l0_6.length c0_6) := (blk_cell BK170.out 6).trans rfl; have hfz17_0 := blk_frozen BK170.out 0; have hfz17_1 := blk_frozen BK170.out 1; have hfz17_2 := blk_frozen BK170.out 2; have hfz17_3 := blk_frozen BK170.out 3; have hfz17_4 := blk_frozen BK170.out 4; have hfz17_5 := blk_frozen BK170.out 5; have hfz17_6 := blk_frozen BK170.out 6))
            go_meet
            case rel => exact ⟨_, (true), (by first | rfl | (simp; done) | (simp [*]; done)), H', ⟨by first | omega | exact Nat.le_refl _⟩, ⟨by (with_reducible repeat (first | refine blk_drewN ?_ _ | refine blk_drew ?_ | refine blk_alloc ?_ _)); exact BK170.out⟩, ⟨by repeat (first | (with_reducible first | exact HB.out | apply below_alloc | apply pw_below_drewN | apply below_drew1 | refine below_set ?_ GE170.out) | exact HB.out)⟩⟩
          · rw [if_neg c14] at H
            have c14b0 : decide (a0_5 < 0) = false := decide_eq_false c14
            clear c14
            by_cases c18 : a0_5 > 64
            · rw [if_pos c18] at H
              have c18b0 : decide (64 < a0_5) = true := decide_eq_true c18
              clear c18
              have H' := Aside0.mk H
              clear H
              have hcz19_0 : w3.cell? ⟨gb170, 0, none⟩ = some (.int .i64 a0_0) := (blk_cell BK170.out 0).trans rfl
              have hcz19_1 : w3.cell? ⟨gb170, 1, none⟩ = some (.int .i64 a0_1) := (blk_cell BK170.out 1).trans rfl
              have hcz19_2 : w3.cell? ⟨gb170, 2, none⟩ = some (.int .i64 a0_2) := (blk_cell BK170.out 2).trans rfl
              have hcz19_3 : w3.cell? ⟨gb170, 3, none⟩ = some (.slice A0_3 l0_3.length c0_3) := (blk_cell BK170.out 3).trans rfl
              have hcz19_4 : w3.cell? ⟨gb170, 4, none⟩ = some (.int .i64 a0_4) := (blk_cell BK170.out 4).trans rfl
              have hcz19_5 : w3.cell? ⟨gb170, 5, none⟩ = some (.int .i64 a0_5) := (blk_cell BK170.out 5).trans rfl
              have hcz19_6 : w3.cell? ⟨gb170, 6, none⟩ = some (.slice A0_6 l0_6.length c0_6) := (blk_cell BK170.out 6).trans rfl
              have hfz19_0 := blk_frozen BK170.out 0
              have hfz19_1 := blk_frozen BK170.out 1
              have hfz19_2 := blk_frozen BK170.out 2
              have hfz19_3 := blk_frozen BK170.out 3
              have hfz19_4 := blk_frozen BK170.out 4
              have hfz19_5 := blk_frozen BK170.out 5
              have hfz19_6 := blk_frozen BK170.out 6
              go_wp2_with (first | ((with_reducible refine gate_callee (f := 41) rfl ?_); refine goesL_ (some 7) rfl rfl Try.func41 (by kernel_rfl) rfl #[.agg #[.int .i64 a0_0, .int .i64 a0_1, .int .i64 a0_2, .slice A0_3 l0_3.length c0_3]] rfl (by (try simp only [List.map_toArray, List.map_cons, List.map_nil]); first | done | rfl | (simp only [List.length_drop, List.length_take]; rfl)) ?_; (with_reducible refine (impl_TableOK.calls k a0_0 a0_1 a0_2 _ _ l0_3 true _ ?side1 ?side2 A4.out).mono ?_); (case side1 => repeat (first | exact (Kd.C_below HR0_3.out HB.out) | (with_reducible refine Kd.C_alloc ?_ _) | (with_reducible refine Kd.C_drewN ?_ _) | (with_reducible refine Kd.C_drew ?_))); (case side2 => exact HC0_3.out); rintro e w20 ⟨rfl, hb⟩; refine ⟨_, rfl, ?_⟩; have n0_ := Aside0.mk (blk_below (g := gb170) (o := .cells #[.int .i64 a0_0, .int .i64 a0_1, .int .i64 a0_2, .slice A0_3 l0_3.length c0_3, .int .i64 a0_4, .int .i64 a0_5, .slice A0_6 l0_6.length c0_6] 90 (0, 0)) (by (with_reducible repeat (first | refine blk_drewN ?_ _ | refine blk_drew ?_ | refine blk_alloc ?_ _)); exact BK170.out) hb); have n1_ := Aside0.mk (below_step (by repeat (first | (with_reducible first | exact HB.out | apply below_alloc | apply pw_below_drewN | apply below_drew1 | refine below_set ?_ GE170.out) | exact HB.out)) hb); clear BK170; clear HB; have BK170 := n0_; have HB := n1_; clear n0_ n1_; (try clear hb); (try clear hb2); (try clear hk); (try clear hi); have hcz21_0 : w20.cell? ⟨gb170, 0, none⟩ = some (.int .i64 a0_0) := (blk_cell BK170.out 0).trans rfl; have hcz21_1 : w20.cell? ⟨gb170, 1, none⟩ = some (.int .i64 a0_1) := (blk_cell BK170.out 1).trans rfl; have hcz21_2 : w20.cell? ⟨gb170, 2, none⟩ = some (.int .i64 a0_2) := (blk_cell BK170.out 2).trans rfl; have hcz21_3 : w20.cell? ⟨gb170, 3, none⟩ = some (.slice A0_3 l0_3.length c0_3) := (blk_cell BK170.out 3).trans rfl; have hcz21_4 : w20.cell? ⟨gb170, 4, none⟩ = some (.int .i64 a0_4) := (blk_cell BK170.out 4).trans rfl; have hcz21_5 : w20.cell? ⟨gb170, 5, none⟩ = some (.int .i64 a0_5) := (blk_cell BK170.out 5).trans rfl; have hcz21_6 : w20.cell? ⟨gb170, 6, none⟩ = some (.slice A0_6 l0_6.length c0_6) := (blk_cell BK170.out 6).trans rfl; have hfz21_0 := blk_frozen BK170.out 0; have hfz21_1 := blk_frozen BK170.out 1; have hfz21_2 := blk_frozen BK170.out 2; have hfz21_3 := blk_frozen BK170.out 3; have hfz21_4 := blk_frozen BK170.out 4; have hfz21_5 := blk_frozen BK170.out 5; have hfz21_6 := blk_frozen BK170.out 6))
              go_meet
              case rel => exact ⟨_, (true), (by first | rfl | (simp; done) | (simp [*]; done)), H', ⟨by first | omega | exact Nat.le_refl _⟩, ⟨by (with_reducible repeat (first | refine blk_drewN ?_ _ | refine blk_drew ?_ | refine blk_alloc ?_ _)); exact BK170.out⟩, ⟨by repeat (first | (with_reducible first | exact HB.out | apply below_alloc | apply pw_below_drewN | apply below_drew1 | refine below_set ?_ GE170.out) | exact HB.out)⟩⟩
            · rw [if_neg c18] at H
              have c18b0 : decide (64 < a0_5) = false := decide_eq_false c18
              clear c18
              have H' := Aside0.mk H
              clear H
              have hcz22_0 : w3.cell? ⟨gb170, 0, none⟩ = some (.int .i64 a0_0) := (blk_cell BK170.out 0).trans rfl
              have hcz22_1 : w3.cell? ⟨gb170, 1, none⟩ = some (.int .i64 a0_1) := (blk_cell BK170.out 1).trans rfl
              have hcz22_2 : w3.cell? ⟨gb170, 2, none⟩ = some (.int .i64 a0_2) := (blk_cell BK170.out 2).trans rfl
              have hcz22_3 : w3.cell? ⟨gb170, 3, none⟩ = some (.slice A0_3 l0_3.length c0_3) := (blk_cell BK170.out 3).trans rfl
              have hcz22_4 : w3.cell? ⟨gb170, 4, none⟩ = some (.int .i64 a0_4) := (blk_cell BK170.out 4).trans rfl
              have hcz22_5 : w3.cell? ⟨gb170, 5, none⟩ = some (.int .i64 a0_5) := (blk_cell BK170.out 5).trans rfl
              have hcz22_6 : w3.cell? ⟨gb170, 6, none⟩ = some (.slice A0_6 l0_6.length c0_6) := (blk_cell BK170.out 6).trans rfl
              have hfz22_0 := blk_frozen BK170.out 0
              have hfz22_1 := blk_frozen BK170.out 1
              have hfz22_2 := blk_frozen BK170.out 2
              have hfz22_3 := blk_frozen BK170.out 3
              have hfz22_4 := blk_frozen BK170.out 4
              have hfz22_5 := blk_frozen BK170.out 5
              have hfz22_6 := blk_frozen BK170.out 6
              go_wp2_with (first | ((with_reducible refine gate_callee (f := 41) rfl ?_); refine goesL_ (some 7) rfl rfl Try.func41 (by kernel_rfl) rfl #[.agg #[.int .i64 a0_0, .int .i64 a0_1, .int .i64 a0_2, .slice A0_3 l0_3.length c0_3]] rfl (by (try simp only [List.map_toArray, List.map_cons, List.map_nil]); first | done | rfl | (simp only [List.length_drop, List.length_take]; rfl)) ?_; (with_reducible refine (impl_TableOK.calls k a0_0 a0_1 a0_2 _ _ l0_3 true _ ?side1 ?side2 A4.out).mono ?_); (case side1 => repeat (first | exact (Kd.C_below HR0_3.out HB.out) | (with_reducible refine Kd.C_alloc ?_ _) | (with_reducible refine Kd.C_drewN ?_ _) | (with_reducible refine Kd.C_drew ?_))); (case side2 => exact HC0_3.out); rintro e w23 ⟨rfl, hb⟩; refine ⟨_, rfl, ?_⟩; have n0_ := Aside0.mk (blk_below (g := gb170) (o := .cells #[.int .i64 a0_0, .int .i64 a0_1, .int .i64 a0_2, .slice A0_3 l0_3.length c0_3, .int .i64 a0_4, .int .i64 a0_5, .slice A0_6 l0_6.length c0_6] 90 (0, 0)) (by (with_reducible repeat (first | refine blk_drewN ?_ _ | refine blk_drew ?_ | refine blk_alloc ?_ _)); exact BK170.out) hb); have n1_ := Aside0.mk (below_step (by repeat (first | (with_reducible first | exact HB.out | apply below_alloc | apply pw_below_drewN | apply below_drew1 | refine below_set ?_ GE170.out) | exact HB.out)) hb); clear BK170; clear HB; have BK170 := n0_; have HB := n1_; clear n0_ n1_; (try clear hb); (try clear hb2); (try clear hk); (try clear hi); have hcz24_0 : w23.cell? ⟨gb170, 0, none⟩ = some (.int .i64 a0_0) := (blk_cell BK170.out 0).trans rfl; have hcz24_1 : w23.cell? ⟨gb170, 1, none⟩ = some (.int .i64 a0_1) := (blk_cell BK170.out 1).trans rfl; have hcz24_2 : w23.cell? ⟨gb170, 2, none⟩ = some (.int .i64 a0_2) := (blk_cell BK170.out 2).trans rfl; have hcz24_3 : w23.cell? ⟨gb170, 3, none⟩ = some (.slice A0_3 l0_3.length c0_3) := (blk_cell BK170.out 3).trans rfl; have hcz24_4 : w23.cell? ⟨gb170, 4, none⟩ = some (.int .i64 a0_4) := (blk_cell BK170.out 4).trans rfl; have hcz24_5 : w23.cell? ⟨gb170, 5, none⟩ = some (.int .i64 a0_5) := (blk_cell BK170.out 5).trans rfl; have hcz24_6 : w23.cell? ⟨gb170, 6, none⟩ = some (.slice A0_6 l0_6.length c0_6) := (blk_cell BK170.out 6).trans rfl; have hfz24_0 := blk_frozen BK170.out 0; have hfz24_1 := blk_frozen BK170.out 1; have hfz24_2 := blk_frozen BK170.out 2; have hfz24_3 := blk_frozen BK170.out 3; have hfz24_4 := blk_frozen BK170.out 4; have hfz24_5 := blk_frozen BK170.out 5; have hfz24_6 := blk_frozen BK170.out 6))
              go_meet
              case rel => exact ⟨_, (decide ((l0_6.length : Int) > 64)), (by first | rfl | (simp; done) | (simp [*]; done)), H', ⟨by first | omega | exact Nat.le_refl _⟩, ⟨by (with_reducible repeat (first | refine blk_drewN ?_ _ | refine blk_drew ?_ | refine blk_alloc ?_ _)); exact BK170.out⟩, ⟨by repeat (first | (with_reducible first | exact HB.out | apply below_alloc | apply pw_below_drewN | apply below_drew1 | refine below_set ?_ GE170.out) | exact HB.out)⟩⟩
    · replace c5 := Bool.eq_false_iff.mpr c5
      subst c5
      have H1 : (impl_EncoderOK.j0 k true a0_0 a0_1 a0_2 l0_3 a0_4 a0_5 l0_6) = some r := by rw [if_neg (show ¬ (false = true) by decide)] at H; exact H
      clear H
      have H := H1
      clear H1
      have H' := Aside0.mk H
      clear H
      have hcz25_0 : w3.cell? ⟨gb170, 0, none⟩ = some (.int .i64 a0_0) := (blk_cell BK170.out 0).trans rfl
      have hcz25_1 : w3.cell? ⟨gb170, 1, none⟩ = some (.int .i64 a0_1) := (blk_cell BK170.out 1).trans rfl
      have hcz25_2 : w3.cell? ⟨gb170, 2, none⟩ = some (.int .i64 a0_2) := (blk_cell BK170.out 2).trans rfl
      have hcz25_3 : w3.cell? ⟨gb170, 3, none⟩ = some (.slice A0_3 l0_3.length c0_3) := (blk_cell BK170.out 3).trans rfl
      have hcz25_4 : w3.cell? ⟨gb170, 4, none⟩ = some (.int .i64 a0_4) := (blk_cell BK170.out 4).trans rfl
      have hcz25_5 : w3.cell? ⟨gb170, 5, none⟩ = some (.int .i64 a0_5) := (blk_cell BK170.out 5).trans rfl
      have hcz25_6 : w3.cell? ⟨gb170, 6, none⟩ = some (.slice A0_6 l0_6.length c0_6) := (blk_cell BK170.out 6).trans rfl
      have hfz25_0 := blk_frozen BK170.out 0
      have hfz25_1 := blk_frozen BK170.out 1
      have hfz25_2 := blk_frozen BK170.out 2
      have hfz25_3 := blk_frozen BK170.out 3
      have hfz25_4 := blk_frozen BK170.out 4
      have hfz25_5 := blk_frozen BK170.out 5
      have hfz25_6 := blk_frozen BK170.out 6
      go_wp2_with (first | ((with_reducible refine gate_callee (f := 41) rfl ?_); refine goesL_ (some 7) rfl rfl Try.func41 (by kernel_rfl) rfl #[.agg #[.int .i64 a0_0, .int .i64 a0_1, .int .i64 a0_2, .slice A0_3 l0_3.length c0_3]] rfl (by (try simp only [List.map_toArray, List.map_cons, List.map_nil]); first | done | rfl | (simp only [List.length_drop, List.length_take]; rfl)) ?_; (with_reducible refine (impl_TableOK.calls k a0_0 a0_1 a0_2 _ _ l0_3 false _ ?side1 ?side2 A4.out).mono ?_); (case side1 => repeat (first | exact (Kd.C_below HR0_3.out HB.out) | (with_reducible refine Kd.C_alloc ?_ _) | (with_reducible refine Kd.C_drewN ?_ _) | (with_reducible refine Kd.C_drew ?_))); (case side2 => exact HC0_3.out); rintro e w26 ⟨rfl, hb⟩; refine ⟨_, rfl, ?_⟩; have n0_ := Aside0.mk (blk_below (g := gb170) (o := .cells #[.int .i64 a0_0, .int .i64 a0_1, .int .i64 a0_2, .slice A0_3 l0_3.length c0_3, .int .i64 a0_4, .int .i64 a0_5, .slice A0_6 l0_6.length c0_6] 90 (0, 0)) (by (with_reducible repeat (first | refine blk_drewN ?_ _ | refine blk_drew ?_ | refine blk_alloc ?_ _)); exact BK170.out) hb); have n1_ := Aside0.mk (below_step (by repeat (first | (with_reducible first | exact HB.out | apply below_alloc | apply pw_below_drewN | apply below_drew1 | refine below_set ?_ GE170.out) | exact HB.out)) hb); clear BK170; clear HB; have BK170 := n0_; have HB := n1_; clear n0_ n1_; (try clear hb); (try clear hb2); (try clear hk); (try clear hi)))
      go_meet
      case rel => exact ⟨_, (true), (by first | rfl | (simp; done) | (simp [*]; done)), H', ⟨by first | omega | exact Nat.le_refl _⟩, ⟨by (with_reducible repeat (first | refine blk_drewN ?_ _ | refine blk_drew ?_ | refine blk_alloc ?_ _)); exact BK170.out⟩, ⟨by repeat (first | (with_reducible first | exact HB.out | apply below_alloc | apply pw_below_drewN | apply below_drew1 | refine below_set ?_ GE170.out) | exact HB.out)⟩⟩
  case rest =>
    clear HC2
    try clear c1
    try clear p2
    try clear c4
    try clear c5
    try clear c6
    try clear c6b0
    try clear c10
    try clear c10b0
    try clear c14
    try clear c14b0
    try clear c18
    try clear c18b0
    try clear hcz11_0
    try clear hcz11_1
    try clear hcz11_2
    try clear hcz11_3
    try clear hcz11_4
    try clear hcz11_5
    try clear hcz11_6
    try clear hcz13_0
    try clear hcz13_1
    try clear hcz13_2
    try clear hcz13_3
    try clear hcz13_4
    try clear hcz13_5
    try clear hcz13_6
    try clear hcz15_0
    try clear hcz15_1
    try clear hcz15_2
    try clear hcz15_3
    try clear hcz15_4
    try clear hcz15_5
    try clear hcz15_6
    try clear hcz17_0
    try clear hcz17_1
    try clear hcz17_2
    try clear hcz17_3
    try clear hcz17_4
    try clear hcz17_5
    try clear hcz17_6
    try clear hcz19_0
    try clear hcz19_1
    try clear hcz19_2
    try clear hcz19_3
    try clear hcz19_4
    try clear hcz19_5
    try clear hcz19_6
    try clear hcz21_0
    try clear hcz21_1
    try clear hcz21_2
    try clear hcz21_3
    try clear hcz21_4
    try clear hcz21_5
    try clear hcz21_6
    try clear hcz22_0
    try clear hcz22_1
    try clear hcz22_2
    try clear hcz22_3
    try clear hcz22_4
    try clear hcz22_5
    try clear hcz22_6
    try clear hcz24_0
    try clear hcz24_1
    try clear hcz24_2
    try clear hcz24_3
    try clear hcz24_4
    try clear hcz24_5
    try clear hcz24_6
    try clear hcz25_0
    try clear hcz25_1
    try clear hcz25_2
    try clear hcz25_3
    try clear hcz25_4
    try clear hcz25_5
    try clear hcz25_6
    try clear hcz7_0
    try clear hcz7_1
    try clear hcz7_2
    try clear hcz7_3
    try clear hcz7_4
    try clear hcz7_5
    try clear hcz7_6
    try clear hcz9_0
    try clear hcz9_1
    try clear hcz9_2
    try clear hcz9_3
    try clear hcz9_4
    try clear hcz9_5
    try clear hcz9_6
    try clear hfz11_0
    try clear hfz11_1
    try clear hfz11_2
    try clear hfz11_3
    try clear hfz11_4
    try clear hfz11_5
    try clear hfz11_6
    try clear hfz13_0
    try clear hfz13_1
    try clear hfz13_2
    try clear hfz13_3
    try clear hfz13_4
    try clear hfz13_5
    try clear hfz13_6
    try clear hfz15_0
    try clear hfz15_1
    try clear hfz15_2
    try clear hfz15_3
    try clear hfz15_4
    try clear hfz15_5
    try clear hfz15_6
    try clear hfz17_0
    try clear hfz17_1
    try clear hfz17_2
    try clear hfz17_3
    try clear hfz17_4
    try clear hfz17_5
    try clear hfz17_6
    try clear hfz19_0
    try clear hfz19_1
    try clear hfz19_2
    try clear hfz19_3
    try clear hfz19_4
    try clear hfz19_5
    try clear hfz19_6
    try clear hfz21_0
    try clear hfz21_1
    try clear hfz21_2
    try clear hfz21_3
    try clear hfz21_4
    try clear hfz21_5
    try clear hfz21_6
    try clear hfz22_0
    try clear hfz22_1
    try clear hfz22_2
    try clear hfz22_3
    try clear hfz22_4
    try clear hfz22_5
    try clear hfz22_6
    try clear hfz24_0
    try clear hfz24_1
    try clear hfz24_2
    try clear hfz24_3
    try clear hfz24_4
    try clear hfz24_5
    try clear hfz24_6
    try clear hfz25_0
    try clear hfz25_1
    try clear hfz25_2
    try clear hfz25_3
    try clear hfz25_4
    try clear hfz25_5
    try clear hfz25_6
    try clear hfz7_0
    try clear hfz7_1
    try clear hfz7_2
    try clear hfz7_3
    try clear hfz7_4
    try clear hfz7_5
    try clear hfz7_6
    try clear hfz9_0
    try clear hfz9_1
    try clear hfz9_2
    try clear hfz9_3
    try clear hfz9_4
    try clear hfz9_5
    try clear hfz9_6
    obtain ⟨kq, x37_1, rfl, HA, HJ1, BK170, HB⟩ := hcut
    cases kq with
    | zero => exact absurd HA.out (by simp [impl_EncoderOK.j0])
    | succ kj1 =>
      have H := HA.out
      clear HA
      simp only [impl_EncoderOK.j0] at H
      by_cases c27 : x37_1 = true
      · subst c27
        have H1 : (some false) = some r := by rw [if_pos rfl] at H; exact H
        clear H
        have H := H1
        clear H1
        obtain rfl := Option.some.inj H
        go_wp2
        go_ret
        exact ⟨by first | rfl | (simp [errW_none, errW_some] <;> rfl) | (simp [*, errW_none, errW_some] <;> rfl), by repeat (first | (with_reducible first | exact HB.out | apply below_alloc | apply pw_below_drewN | apply below_drew1 | refine below_set ?_ GE170.out) | exact HB.out)⟩
      · replace c27 := Bool.eq_false_iff.mpr c27
        subst c27
        have H1 : (impl_EncoderOK.l0 kj1 l0_6 (l0_6.length : Int) 0 a0_0 a0_1 a0_2 l0_3 a0_4 a0_5 l0_6) = some r := by rw [if_neg (show ¬ (false = true) by decide)] at H; exact H
        clear H
        have H := H1
        clear H1
        have H' := Aside0.mk H
        clear H
        have hcz28_0 : wc.cell? ⟨gb170, 0, none⟩ = some (.int .i64 a0_0) := (blk_cell BK170.out 0).trans rfl
        have hcz28_1 : wc.cell? ⟨gb170, 1, none⟩ = some (.int .i64 a0_1) := (blk_cell BK170.out 1).trans rfl
        have hcz28_2 : wc.cell? ⟨gb170, 2, none⟩ = some (.int .i64 a0_2) := (blk_cell BK170.out 2).trans rfl
        have hcz28_3 : wc.cell? ⟨gb170, 3, none⟩ = some (.slice A0_3 l0_3.length c0_3) := (blk_cell BK170.out 3).trans rfl
        have hcz28_4 : wc.cell? ⟨gb170, 4, none⟩ = some (.int .i64 a0_4) := (blk_cell BK170.out 4).trans rfl
        have hcz28_5 : wc.cell? ⟨gb170, 5, none⟩ = some (.int .i64 a0_5) := (blk_cell BK170.out 5).trans rfl
        have hcz28_6 : wc.cell? ⟨gb170, 6, none⟩ = some (.slice A0_6 l0_6.length c0_6) := (blk_cell BK170.out 6).trans rfl
        have hfz28_0 := blk_frozen BK170.out 0
        have hfz28_1 := blk_frozen BK170.out 1
        have hfz28_2 := blk_frozen BK170.out 2
        have hfz28_3 := blk_frozen BK170.out 3
        have hfz28_4 := blk_frozen BK170.out 4
        have hfz28_5 := blk_frozen BK170.out 5
        have hfz28_6 := blk_frozen BK170.out 6
        go_wp2
        go_loopg [41] kj1 (fun kq v41 w' => ∃ (x41_2 : Int), v41 = .int .i64 x41_2 ∧ Aside0 (impl_EncoderOK.l0 kq l0_6 (l0_6.length : Int) x41_2 a0_0 a0_1 a0_2 l0_3 a0_4 a0_5 l0_6 = some r) ∧ Aside0 (kq ≤ kj1) ∧ Aside0 (w'.heap[gb170]? = some (.cells #[.int .i64 a0_0, .int .i64 a0_1, .int .i64 a0_2, (.slice A0_3 l0_3.length c0_3), .int .i64 a0_4, .int .i64 a0_5, (.slice A0_6 l0_6.length c0_6)] 90 (0, 0))) ∧ Aside0 (Below w.heap.size w w'))
        case atStart => exact ⟨(0), (by first | rfl | (simp; done) | (simp [*]; done)), H', ⟨Nat.le_refl _⟩, ⟨by (with_reducible repeat (first | refine blk_drewN ?_ _ | refine blk_drew ?_ | refine blk_alloc ?_ _)); exact BK170.out⟩, ⟨by repeat (first | (with_reducible first | exact HB.out | apply below_alloc | apply pw_below_drewN | apply below_drew1 | refine below_set ?_ GE170.out) | exact HB.out)⟩⟩
        case round =>
          clear H'
          try clear c1
          try clear c2
          try clear p2
          try clear c4
          try clear c5
          try clear c6
          try clear c6b0
          try clear c10
          try clear c10b0
          try clear c14
          try clear c14b0
          try clear c18
          try clear c18b0
          try clear c27
          try clear hcz11_0
          try clear hcz11_1
          try clear hcz11_2
          try clear hcz11_3
          try clear hcz11_4
          try clear hcz11_5
          try clear hcz11_6
          try clear hcz13_0
          try clear hcz13_1
          try clear hcz13_2
          try clear hcz13_3
          try clear hcz13_4
          try clear hcz13_5
          try clear hcz13_6
          try clear hcz15_0
          try clear hcz15_1
          try clear hcz15_2
          try clear hcz15_3
          try clear hcz15_4
          try clear hcz15_5
          try clear hcz15_6
          try clear hcz17_0
          try clear hcz17_1
          try clear hcz17_2
          try clear hcz17_3
          try clear hcz17_4
          try clear hcz17_5
          try clear hcz17_6
          try clear hcz19_0
          try clear hcz19_1
          try clear hcz19_2
          try clear hcz19_3
          try clear hcz19_4
          try clear hcz19_5
          try clear hcz19_6
          try clear hcz21_0
          try clear hcz21_1
          try clear hcz21_2
          try clear hcz21_3
          try clear hcz21_4
          try clear hcz21_5
          try clear hcz21_6
          try clear hcz22_0
          try clear hcz22_1
          try clear hcz22_2
          try clear hcz22_3
          try clear hcz22_4
          try clear hcz22_5
          try clear hcz22_6
          try clear hcz24_0
          try clear hcz24_1
          try clear hcz24_2
          try clear hcz24_3
          try clear hcz24_4
          try clear hcz24_5
          try clear hcz24_6
          try clear hcz25_0
          try clear hcz25_1
          try clear hcz25_2
          try clear hcz25_3
          try clear hcz25_4
          try clear hcz25_5
          try clear hcz25_6
          try clear hcz28_0
          try clear hcz28_1
          try clear hcz28_2
          try clear hcz28_3
          try clear hcz28_4
          try clear hcz28_5
          try clear hcz28_6
          try clear hcz7_0
          try clear hcz7_1
          try clear hcz7_2
          try clear hcz7_3
          try clear hcz7_4
          try clear hcz7_5
          try clear hcz7_6
          try clear hcz9_0
          try clear hcz9_1
          try clear hcz9_2
          try clear hcz9_3
          try clear hcz9_4
          try clear hcz9_5
          try clear hcz9_6
          try clear hfz11_0
          try clear hfz11_1
          try clear hfz11_2
          try clear hfz11_3
          try clear hfz11_4
          try clear hfz11_5
          try clear hfz11_6
          try clear hfz13_0
          try clear hfz13_1
          try clear hfz13_2
          try clear hfz13_3
          try clear hfz13_4
          try clear hfz13_5
          try clear hfz13_6
          try clear hfz15_0
          try clear hfz15_1
          try clear hfz15_2
          try clear hfz15_3
          try clear hfz15_4
          try clear hfz15_5
          try clear hfz15_6
          try clear hfz17_0
          try clear hfz17_1
          try clear hfz17_2
          try clear hfz17_3
          try clear hfz17_4
          try clear hfz17_5
          try clear hfz17_6
          try clear hfz19_0
          try clear hfz19_1
          try clear hfz19_2
          try clear hfz19_3
          try clear hfz19_4
          try clear hfz19_5
          try clear hfz19_6
          try clear hfz21_0
          try clear hfz21_1
          try clear hfz21_2
          try clear hfz21_3
          try clear hfz21_4
          try clear hfz21_5
          try clear hfz21_6
          try clear hfz22_0
          try clear hfz22_1
          try clear hfz22_2
          try clear hfz22_3
          try clear hfz22_4
          try clear hfz22_5
          try clear hfz22_6
          try clear hfz24_0
          try clear hfz24_1
          try clear hfz24_2
          try clear hfz24_3
          try clear hfz24_4
          try clear hfz24_5
          try clear hfz24_6
          try clear hfz25_0
          try clear hfz25_1
          try clear hfz25_2
          try clear hfz25_3
          try clear hfz25_4
          try clear hfz25_5
          try clear hfz25_6
          try clear hfz28_0
          try clear hfz28_1
          try clear hfz28_2
          try clear hfz28_3
          try clear hfz28_4
          try clear hfz28_5
          try clear hfz28_6
          try clear hfz7_0
          try clear hfz7_1
          try clear hfz7_2
          try clear hfz7_3
          try clear hfz7_4
          try clear hfz7_5
          try clear hfz7_6
          try clear hfz9_0
          try clear hfz9_1
          try clear hfz9_2
          try clear hfz9_3
          try clear hfz9_4
          try clear hfz9_5
          try clear hfz9_6
          try clear p2
          obtain ⟨x41_2, rfl, HA, HK2, BK170, HB⟩ := hrel
          cases gk with
          | zero => exact absurd HA.out (by simp [impl_EncoderOK.l0])
          | succ k2 =>
            have H := HA.out
            clear HA
            simp only [impl_EncoderOK.l0] at H
            by_cases c29 : x41_2 < (l0_6.length : Int)
            · rw [if_pos c29] at H
              have c29b0 : decide (x41_2 < (l0_6.length : Int)) = true := decide_eq_true c29
              clear c29
              by_cases c30 : 0 ≤ x41_2
              · rw [if_pos c30] at H
                have c30b0 : decide (0 ≤ x41_2) = true := decide_eq_true c30
                clear c30
                by_cases c31 : x41_2 < (l0_6.length : Int)
                · rw [if_pos c31] at H
                  have c31b0 : decide (x41_2 < (l0_6.length : Int)) = true := decide_eq_true c31
                  clear c31
                  replace H := Option.bind_eq_some_iff.mp H
                  obtain ⟨t174, A320, H⟩ := H
                  replace H : (if t174 = true then (if ((rd_T153 l0_6 x41_2).f1) < 1 then (some false) else (if ((rd_T153 l0_6 x41_2).f1) > a0_2 then (some false) else (if ((rd_T153 l0_6 x41_2).f2) < 0 then (some false) else (if ((rd_T153 l0_6 x41_2).f2) ≥ ((rd_T153 l0_6 x41_2).f1) then (some false) else (impl_EncoderOK.l0 k2 l0_6 (l0_6.length : Int) (wrap64 (x41_2 + 1)) a0_0 a0_1 a0_2 l0_3 a0_4 a0_5 l0_6))))) else (some false)) = some r := H
                  have A32 := Aside0.mk A320
                  clear A320
                  by_cases c33 : t174 = true
                  · subst c33
                    have H1 : (if ((rd_T153 l0_6 x41_2).f1) < 1 then (some false) else (if ((rd_T153 l0_6 x41_2).f1) > a0_2 then (some false) else (if ((rd_T153 l0_6 x41_2).f2) < 0 then (some false) else (if ((rd_T153 l0_6 x41_2).f2) ≥ ((rd_T153 l0_6 x41_2).f1) then (some false) else (impl_EncoderOK.l0 k2 l0_6 (l0_6.length : Int) (wrap64 (x41_2 + 1)) a0_0 a0_1 a0_2 l0_3 a0_4 a0_5 l0_6))))) = some r := by rw [if_pos rfl] at H; exact H
                    clear H
                    have H := H1
                    clear H1
                    by_cases c34 : ((rd_T153 l0_6 x41_2).f1) < 1
                    · rw [if_pos c34] at H
                      have c34b0 : decide (((rd_T153 l0_6 x41_2).f1) < 1) = true := decide_eq_true c34
                      clear c34
                      obtain rfl := Option.some.inj H
                      have p172 : 0 ≤ (x41_2 : Int) := of_decide_eq_true (by first | (with_reducible assumption) | assumption)
                      have q172 : x41_2 < (l0_6.length : Int) := of_decide_eq_true (by first | (with_reducible assumption) | assumption)
                      obtain ⟨ad172, e172, hx172_0, hx172_1, hx172_2⟩ := at_T153 HR0_6.out x41_2 p172 q172
                      cases e172
                      replace hx172_0 := (HB.out.cell (World.block_lt_of_cell? w _ hx172_0)).trans hx172_0
                      replace hx172_1 := (HB.out.cell (World.block_lt_of_cell? w _ hx172_1)).trans hx172_1
                      replace hx172_2 := (HB.out.cell (World.block_lt_of_cell? w _ hx172_2)).trans hx172_2
                      replace p172 := eq_true p172
                      replace q172 := eq_true q172
                      go_wp2_with (first | ((with_reducible refine gate_dst (N := 4) rfl ?_); (try (refine gate_guard (by rfl) ?_; dsimp only)); refine box_event ?hg (N := 4) ?hd (cs := #[.int .i64 0, .int .i64 0, .int .i64 0]) (t := 153) ?hr ?_; (case hd => rfl); (case hg => rfl); (case hr => first | (go_simp; done) | (go_simp; rfl)); intro gb173 hg w35 hbox hb; have n0_ := Aside0.mk (blk_below (g := gb170) (o := .cells #[.int .i64 a0_0, .int .i64 a0_1, .int .i64 a0_2, .slice A0_3 l0_3.length c0_3, .int .i64 a0_4, .int .i64 a0_5, .slice (some ad172) l0_6.length c0_6] 90 (0, 0)) (by (with_reducible repeat (first | refine blk_drewN ?_ _ | refine blk_drew ?_ | refine blk_alloc ?_ _)); exact BK170.out) hb); have n1_ := Aside0.mk (below_step (by repeat (first | (with_reducible first | exact HB.out | apply below_alloc | apply pw_below_drewN | apply below_drew1 | refine below_set ?_ GE170.out) | exact HB.out)) hb); have n2_ := Aside0.mk (hbox); have n3_ := Aside0.mk ((by rw [hg]; exact (below_size (by repeat (first | (with_reducible first | exact HB.out | apply below_alloc | apply pw_below_drewN | apply below_drew1 | refine below_set ?_ GE170.out) | exact HB.out))) : w.heap.size ≤ gb173)); have n4_ := Aside0.mk ((by rw [hg]; exact (below_size (by repeat (first | (with_reducible first | exact HB.out | apply below_alloc | apply pw_below_drewN | apply below_drew1 | refine below_set ?_ GE170.out) | exact HB.out))) : w.heap.size ≤ gb173)); have n5_ := Aside0.mk ((by rw [hg]; exact Nat.ne_of_lt (blk_lt (g := gb170) (o := .cells #[.int .i64 a0_0, .int .i64 a0_1, .int .i64 a0_2, .slice A0_3 l0_3.length c0_3, .int .i64 a0_4, .int .i64 a0_5, .slice (some ad172) l0_6.length c0_6] 90 (0, 0)) (by (with_reducible repeat (first | refine blk_drewN ?_ _ | refine blk_drew ?_ | refine blk_alloc ?_ _)); exact BK170.out)) : gb170 ≠ gb173)); have n6_ := Aside0.mk ((by rw [hg]; exact Nat.ne_of_gt (blk_lt (g := gb170) (o := .cells #[.int .i64 a0_0, .int .i64 a0_1, .int .i64 a0_2, .slice A0_3 l0_3.length c0_3, .int .i64 a0_4, .int .i64 a0_5, .slice (some ad172) l0_6.length c0_6] 90 (0, 0)) (by (with_reducible repeat (first | refine blk_drewN ?_ _ | refine blk_drew ?_ | refine blk_alloc ?_ _)); exact BK170.out)) : gb173 ≠ gb170)); clear BK170; clear HB; have BK170 := n0_; have HB := n1_; have BK173 := n2_; have GW173 := n3_; have GE173 := n4_; have NB170_173 := n5_; have NB173_170 := n6_; clear n0_ n1_ n2_ n3_ n4_ n5_ n6_; clear hb hbox hg; have hnb36 := NB173_170.out; have hnc36 := NB170_173.out; have hcz37_0 : w35.cell? ⟨gb173, 0, none⟩ = some (.int .i64 0) := (blk_cell BK173.out 0).trans rfl; have hcz37_1 : w35.cell? ⟨gb173, 1, none⟩ = some (.int .i64 0) := (blk_cell BK173.out 1).trans rfl; have hcz37_2 : w35.cell? ⟨gb173, 2, none⟩ = some (.int .i64 0) := (blk_cell BK173.out 2).trans rfl; have hfz37_0 := blk_frozen BK173.out 0; have hfz37_1 := blk_frozen BK173.out 1; have hfz37_2 := blk_frozen BK173.out 2) | ((with_reducible refine gate_callee (f := 86) rfl ?_); refine goesL_ (some 47) rfl rfl Try.func86 (by kernel_rfl) rfl #[.int .i64 ((rd_T153 l0_6 x41_2).f0)] rfl (by (try simp only [List.map_toArray, List.map_cons, List.map_nil]); first | done | rfl | (simp only [List.length_drop, List.length_take]; rfl)) ?_; (with_reducible refine (impl_inVar.calls ((rd_T153 l0_6 x41_2).f0) true _ A32.out).mono ?_); rintro e w' ⟨rfl, ⟨nd, rfl⟩⟩; refine ⟨_, rfl, ?_⟩))
                      go_ret
                      exact ⟨by first | rfl | (simp [errW_none, errW_some] <;> rfl) | (simp [*, errW_none, errW_some] <;> rfl), by repeat (first | (with_reducible first | exact HB.out | apply below_alloc | apply pw_below_drewN | apply below_drew1 | refine below_set ?_ GE170.out | refine below_set ?_ GE173.out) | exact HB.out)⟩
                    · rw [if_neg c34] at H
                      have c34b0 : decide (((rd_T153 l0_6 x41_2).f1) < 1) = false := decide_eq_false c34
                      clear c34
                      by_cases c38 : ((rd_T153 l0_6 x41_2).f1) > a0_2
                      · rw [if_pos c38] at H
                        have c38b0 : decide (a0_2 < ((rd_T153 l0_6 x41_2).f1)) = true := decide_eq_true c38
                        clear c38
                        obtain rfl := Option.some.inj H
                        have p172 : 0 ≤ (x41_2 : Int) := of_decide_eq_true (by first | (with_reducible assumption) | assumption)
                        have q172 : x41_2 < (l0_6.length : Int) := of_decide_eq_true (by first | (with_reducible assumption) | assumption)
                        obtain ⟨ad172, e172, hx172_0, hx172_1, hx172_2⟩ := at_T153 HR0_6.out x41_2 p172 q172
                        cases e172
                        replace hx172_0 := (HB.out.cell (World.block_lt_of_cell? w _ hx172_0)).trans hx172_0
                        replace hx172_1 := (HB.out.cell (World.block_lt_of_cell? w _ hx172_1)).trans hx172_1
                        replace hx172_2 := (HB.out.cell (World.block_lt_of_cell? w _ hx172_2)).trans hx172_2
                        replace p172 := eq_true p172
                        replace q172 := eq_true q172
                        go_wp2_with (first | ((with_reducible refine gate_dst (N := 4) rfl ?_); (try (refine gate_guard (by rfl) ?_; dsimp only)); refine box_event ?hg (N := 4) ?hd (cs := #[.int .i64 0, .int .i64 0, .int .i64 0]) (t := 153) ?hr ?_; (case hd => rfl); (case hg => rfl); (case hr => first | (go_simp; done) | (go_simp; rfl)); intro gb173 hg w39 hbox hb; have n0_ := Aside0.mk (blk_below (g := gb170) (o := .cells #[.int .i64 a0_0, .int .i64 a0_1, .int .i64 a0_2, .slice A0_3 l0_3.length c0_3, .int .i64 a0_4, .int .i64 a0_5, .slice (some ad172) l0_6.length c0_6] 90 (0, 0)) (by (with_reducible repeat (first | refine blk_drewN ?_ _ | refine blk_drew ?_ | refine blk_alloc ?_ _)); exact BK170.out) hb); have n1_ := Aside0.mk (below_step (by repeat (first | (with_reducible first | exact HB.out | apply below_alloc | apply pw_below_drewN | apply below_drew1 | refine below_set ?_ GE170.out) | exact HB.out)) hb); have n2_ := Aside0.mk (hbox); have n3_ := Aside0.mk ((by rw [hg]; exact (below_size (by repeat (first | (with_reducible first | exact HB.out | apply below_alloc | apply pw_below_drewN | apply below_drew1 | refine below_set ?_ GE170.out) | exact HB.out))) : w.heap.size ≤ gb173)); have n4_ := Aside0.mk ((by rw [hg]; exact (below_size (by repeat (first | (with_reducible first | exact HB.out | apply below_alloc | apply pw_below_drewN | apply below_drew1 | refine below_set ?_ GE170.out) | exact HB.out))) : w.heap.size ≤ gb173)); have n5_ := Aside0.mk ((by rw [hg]; exact Nat.ne_of_lt (blk_lt (g := gb170) (o := .cells #[.int .i64 a0_0, .int .i64 a0_1, .int .i64 a0_2, .slice A0_3 l0_3.length c0_3, .int .i64 a0_4, .int .i64 a0_5, .slice (some ad172) l0_6.length c0_6] 90 (0, 0)) (by (with_reducible repeat (first | refine blk_drewN ?_ _ | refine blk_drew ?_ | refine blk_alloc ?_ _)); exact BK170.out)) : gb170 ≠ gb173)); have n6_ := Aside0.mk ((by rw [hg]; exact Nat.ne_of_gt (blk_lt (g := gb170) (o := .cells #[.int .i64 a0_0, .int .i64 a0_1, .int .i64 a0_2, .slice A0_3 l0_3.length c0_3, .int .i64 a0_4, .int .i64 a0_5, .slice (some ad172) l0_6.length c0_6] 90 (0, 0)) (by (with_reducible repeat (first | refine blk_drewN ?_ _ | refine blk_drew ?_ | refine blk_alloc ?_ _)); exact BK170.out)) : gb173 ≠ gb170)); clear BK170; clear HB; have BK170 := n0_; have HB := n1_; have BK173 := n2_; have GW173 := n3_; have GE173 := n4_; have NB170_173 := n5_; have NB173_170 := n6_; clear n0_ n1_ n2_ n3_ n4_ n5_ n6_; clear hb hbox hg; have hnb40 := NB173_170.out; have hnc40 := NB170_173.out; have hcz41_0 : w39.cell? ⟨gb173, 0, none⟩ = some (.int .i64 0) := (blk_cell BK173.out 0).trans rfl; have hcz41_1 : w39.cell? ⟨gb173, 1, none⟩ = some (.int .i64 0) := (blk_cell BK173.out 1).trans rfl; have hcz41_2 : w39.cell? ⟨gb173, 2, none⟩ = some (.int .i64 0) := (blk_cell BK173.out 2).trans rfl; have hfz41_0 := blk_frozen BK173.out 0; have hfz41_1 := blk_frozen BK173.out 1; have hfz41_2 := blk_frozen BK173.out 2) | ((with_reducible refine gate_callee (f := 86) rfl ?_); refine goesL_ (some 47) rfl rfl Try.func86 (by kernel_rfl) rfl #[.int .i64 ((rd_T153 l0_6 x41_2).f0)] rfl (by (try simp only [List.map_toArray, List.map_cons, List.map_nil]); first | done | rfl | (simp only [List.length_drop, List.length_take]; rfl)) ?_; (with_reducible refine (impl_inVar.calls ((rd_T153 l0_6 x41_2).f0) true _ A32.out).mono ?_); rintro e w' ⟨rfl, ⟨nd, rfl⟩⟩; refine ⟨_, rfl, ?_⟩; have hcz42_0 : w39.cell? ⟨gb170, 0, none⟩ = some (.int .i64 a0_0) := (blk_cell BK170.out 0).trans rfl; have hcz42_1 : w39.cell? ⟨gb170, 1, none⟩ = some (.int .i64 a0_1) := (blk_cell BK170.out 1).trans rfl; have hcz42_2 : w39.cell? ⟨gb170, 2, none⟩ = some (.int .i64 a0_2) := (blk_cell BK170.out 2).trans rfl; have hcz42_3 : w39.cell? ⟨gb170, 3, none⟩ = some (.slice A0_3 l0_3.length c0_3) := (blk_cell BK170.out 3).trans rfl; have hcz42_4 : w39.cell? ⟨gb170, 4, none⟩ = some (.int .i64 a0_4) := (blk_cell BK170.out 4).trans rfl; have hcz42_5 : w39.cell? ⟨gb170, 5, none⟩ = some (.int .i64 a0_5) := (blk_cell BK170.out 5).trans rfl; have hcz42_6 : w39.cell? ⟨gb170, 6, none⟩ = some (.slice (some ad172) l0_6.length c0_6) := (blk_cell BK170.out 6).trans rfl; have hfz42_0 := blk_frozen BK170.out 0; have hfz42_1 := blk_frozen BK170.out 1; have hfz42_2 := blk_frozen BK170.out 2; have hfz42_3 := blk_frozen BK170.out 3; have hfz42_4 := blk_frozen BK170.out 4; have hfz42_5 := blk_frozen BK170.out 5; have hfz42_6 := blk_frozen BK170.out 6))
                        go_ret
                        exact ⟨by first | rfl | (simp [errW_none, errW_some] <;> rfl) | (simp [*, errW_none, errW_some] <;> rfl), by repeat (first | (with_reducible first | exact HB.out | apply below_alloc | apply pw_below_drewN | apply below_drew1 | refine below_set ?_ GE170.out | refine below_set ?_ GE173.out) | exact HB.out)⟩
                      · rw [if_neg c38] at H
                        have c38b0 : decide (a0_2 < ((rd_T153 l0_6 x41_2).f1)) = false := decide_eq_false c38
                        clear c38
                        by_cases c43 : ((rd_T153 l0_6 x41_2).f2) < 0
                        · rw [if_pos c43] at H
                          have c43b0 : decide (((rd_T153 l0_6 x41_2).f2) < 0) = true := decide_eq_true c43
                          clear c43
                          obtain rfl := Option.some.inj H
                          have p172 : 0 ≤ (x41_2 : Int) := of_decide_eq_true (by first | (with_reducible assumption) | assumption)
                          have q172 : x41_2 < (l0_6.length : Int) := of_decide_eq_true (by first | (with_reducible assumption) | assumption)
                          obtain ⟨ad172, e172, hx172_0, hx172_1, hx172_2⟩ := at_T153 HR0_6.out x41_2 p172 q172
                          cases e172
                          replace hx172_0 := (HB.out.cell (World.block_lt_of_cell? w _ hx172_0)).trans hx172_0
                          replace hx172_1 := (HB.out.cell (World.block_lt_of_cell? w _ hx172_1)).trans hx172_1
                          replace hx172_2 := (HB.out.cell (World.block_lt_of_cell? w _ hx172_2)).trans hx172_2
                          replace p172 := eq_true p172
                          replace q172 := eq_true q172
                          go_wp2_with (first | ((with_reducible refine gate_dst (N := 4) rfl ?_); (try (refine gate_guard (by rfl) ?_; dsimp only)); refine box_event ?hg (N := 4) ?hd (cs := #[.int .i64 0, .int .i64 0, .int .i64 0]) (t := 153) ?hr ?_; (case hd => rfl); (case hg => rfl); (case hr => first | (go_simp; done) | (go_simp; rfl)); intro gb173 hg w44 hbox hb; have n0_ := Aside0.mk (blk_below (g := gb170) (o := .cells #[.int .i64 a0_0, .int .i64 a0_1, .int .i64 a0_2, .slice A0_3 l0_3.length c0_3, .int .i64 a0_4, .int .i64 a0_5, .slice (some ad172) l0_6.length c0_6] 90 (0, 0)) (by (with_reducible repeat (first | refine blk_drewN ?_ _ | refine blk_drew ?_ | refine blk_alloc ?_ _)); exact BK170.out) hb); have n1_ := Aside0.mk (below_step (by repeat (first | (with_reducible first | exact HB.out | apply below_alloc | apply pw_below_drewN | apply below_drew1 | refine below_set ?_ GE170.out) | exact HB.out)) hb); have n2_ := Aside0.mk (hbox); have n3_ := Aside0.mk ((by rw [hg]; exact (below_size (by repeat (first | (with_reducible first | exact HB.out | apply below_alloc | apply pw_below_drewN | apply below_drew1 | refine below_set ?_ GE170.out) | exact HB.out))) : w.heap.size ≤ gb173)); have n4_ := Aside0.mk ((by rw [hg]; exact (below_size (by repeat (first | (with_reducible first | exact HB.out | apply below_alloc | apply pw_below_drewN | apply below_drew1 | refine below_set ?_ GE170.out) | exact HB.out))) : w.heap.size ≤ gb173)); have n5_ := Aside0.mk ((by rw [hg]; exact Nat.ne_of_lt (blk_lt (g := gb170) (o := .cells #[.int .i64 a0_0, .int .i64 a0_1, .int .i64 a0_2, .slice A0_3 l0_3.length c0_3, .int .i64 a0_4, .int .i64 a0_5, .slice (some ad172) l0_6.length c0_6] 90 (0, 0)) (by (with_reducible repeat (first | refine blk_drewN ?_ _ | refine blk_drew ?_ | refine blk_alloc ?_ _)); exact BK170.out)) : gb170 ≠ gb173)); have n6_ := Aside0.mk ((by rw [hg]; exact Nat.ne_of_gt (blk_lt (g := gb170) (o := .cells #[.int .i64 a0_0, .int .i64 a0_1, .int .i64 a0_2, .slice A0_3 l0_3.length c0_3, .int .i64 a0_4, .int .i64 a0_5, .slice (some ad172) l0_6.length c0_6] 90 (0, 0)) (by (with_reducible repeat (first | refine blk_drewN ?_ _ | refine blk_drew ?_ | refine blk_alloc ?_ _)); exact BK170.out)) : gb173 ≠ gb170)); clear BK170; clear HB; have BK170 := n0_; have HB := n1_; have BK173 := n2_; have GW173 := n3_; have GE173 := n4_; have NB170_173 := n5_; have NB173_170 := n6_; clear n0_ n1_ n2_ n3_ n4_ n5_ n6_; clear hb hbox hg; have hnb45 := NB173_170.out; have hnc45 := NB170_173.out; have hcz46_0 : w44.cell? ⟨gb173, 0, none⟩ = some (.int .i64 0) := (blk_cell BK173.out 0).trans rfl; have hcz46_1 : w44.cell? ⟨gb173, 1, none⟩ = some (.int .i64 0) := (blk_cell BK173.out 1).trans rfl; have hcz46_2 : w44.cell? ⟨gb173, 2, none⟩ = some (.int .i64 0) := (blk_cell BK173.out 2).trans rfl; have hfz46_0 := blk_frozen BK173.out 0; have hfz46_1 := blk_frozen BK173.out 1; have hfz46_2 := blk_frozen BK173.out 2) | ((with_reducible refine gate_callee (f := 86) rfl ?_); refine goesL_ (some 47) rfl rfl Try.func86 (by kernel_rfl) rfl #[.int .i64 ((rd_T153 l0_6 x41_2).f0)] rfl (by (try simp only [List.map_toArray, List.map_cons, List.map_nil]); first | done | rfl | (simp only [List.length_drop, List.length_take]; rfl)) ?_; (with_reducible refine (impl_inVar.calls ((rd_T153 l0_6 x41_2).f0) true _ A32.out).mono ?_); rintro e w' ⟨rfl, ⟨nd, rfl⟩⟩; refine ⟨_, rfl, ?_⟩; have hcz47_0 : w44.cell? ⟨gb170, 0, none⟩ = some (.int .i64 a0_0) := (blk_cell BK170.out 0).trans rfl; have hcz47_1 : w44.cell? ⟨gb170, 1, none⟩ = some (.int .i64 a0_1) := (blk_cell BK170.out 1).trans rfl; have hcz47_2 : w44.cell? ⟨gb170, 2, none⟩ = some (.int .i64 a0_2) := (blk_cell BK170.out 2).trans rfl; have hcz47_3 : w44.cell? ⟨gb170, 3, none⟩ = some (.slice A0_3 l0_3.length c0_3) := (blk_cell BK170.out 3).trans rfl; have hcz47_4 : w44.cell? ⟨gb170, 4, none⟩ = some (.int .i64 a0_4) := (blk_cell BK170.out 4).trans rfl; have hcz47_5 : w44.cell? ⟨gb170, 5, none⟩ = some (.int .i64 a0_5) := (blk_cell BK170.out 5).trans rfl; have hcz47_6 : w44.cell? ⟨gb170, 6, none⟩ = some (.slice (some ad172) l0_6.length c0_6) := (blk_cell BK170.out 6).trans rfl; have hfz47_0 := blk_frozen BK170.out 0; have hfz47_1 := blk_frozen BK170.out 1; have hfz47_2 := blk_frozen BK170.out 2; have hfz47_3 := blk_frozen BK170.out 3; have hfz47_4 := blk_frozen BK170.out 4; have hfz47_5 := blk_frozen BK170.out 5; have hfz47_6 := blk_frozen BK170.out 6))
                          go_ret
                          exact ⟨by first | rfl | (simp [errW_none, errW_some] <;> rfl) | (simp [*, errW_none, errW_some] <;> rfl), by repeat (first | (with_reducible first | exact HB.out | apply below_alloc | apply pw_below_drewN | apply below_drew1 | refine below_set ?_ GE170.out | refine below_set ?_ GE173.out) | exact HB.out)⟩
                        · rw [if_neg c43] at H
                          have c43b0 : decide (((rd_T153 l0_6 x41_2).f2) < 0) = false := decide_eq_false c43
                          clear c43
                          by_cases c48 : ((rd_T153 l0_6 x41_2).f2) ≥ ((rd_T153 l0_6 x41_2).f1)
                          · rw [if_pos c48] at H
                            have c48b0 : decide (((rd_T153 l0_6 x41_2).f1) ≤ ((rd_T153 l0_6 x41_2).f2)) = true := decide_eq_true c48
                            clear c48
                            obtain rfl := Option.some.inj H
                            have p172 : 0 ≤ (x41_2 : Int) := of_decide_eq_true (by first | (with_reducible assumption) | assumption)
                            have q172 : x41_2 < (l0_6.length : Int) := of_decide_eq_true (by first | (with_reducible assumption) | assumption)
                            obtain ⟨ad172, e172, hx172_0, hx172_1, hx172_2⟩ := at_T153 HR0_6.out x41_2 p172 q172
                            cases e172
                            replace hx172_0 := (HB.out.cell (World.block_lt_of_cell? w _ hx172_0)).trans hx172_0
                            replace hx172_1 := (HB.out.cell (World.block_lt_of_cell? w _ hx172_1)).trans hx172_1
                            replace hx172_2 := (HB.out.cell (World.block_lt_of_cell? w _ hx172_2)).trans hx172_2
                            replace p172 := eq_true p172
                            replace q172 := eq_true q172
                            go_wp2_with (first | ((with_reducible refine gate_dst (N := 4) rfl ?_); (try (refine gate_guard (by rfl) ?_; dsimp only)); refine box_event ?hg (N := 4) ?hd (cs := #[.int .i64 0, .int .i64 0, .int .i64 0]) (t := 153) ?hr ?_; (case hd => rfl); (case hg => rfl); (case hr => first | (go_simp; done) | (go_simp; rfl)); intro gb173 hg w49 hbox hb; have n0_ := Aside0.mk (blk_below (g := gb170) (o := .cells #[.int .i64 a0_0, .int .i64 a0_1, .int .i64 a0_2, .slice A0_3 l0_3.length c0_3, .int .i64 a0_4, .int .i64 a0_5, .slice (some ad172) l0_6.length c0_6] 90 (0, 0)) (by (with_reducible repeat (first | refine blk_drewN ?_ _ | refine blk_drew ?_ | refine blk_alloc ?_ _)); exact BK170.out) hb); have n1_ := Aside0.mk (below_step (by repeat (first | (with_reducible first | exact HB.out | apply below_alloc | apply pw_below_drewN | apply below_drew1 | refine below_set ?_ GE170.out) | exact HB.out)) hb); have n2_ := Aside0.mk (hbox); have n3_ := Aside0.mk ((by rw [hg]; exact (below_size (by repeat (first | (with_reducible first | exact HB.out | apply below_alloc | apply pw_below_drewN | apply below_drew1 | refine below_set ?_ GE170.out) | exact HB.out))) : w.heap.size ≤ gb173)); have n4_ := Aside0.mk ((by rw [hg]; exact (below_size (by repeat (first | (with_reducible first | exact HB.out | apply below_alloc | apply pw_below_drewN | apply below_drew1 | refine below_set ?_ GE170.out) | exact HB.out))) : w.heap.size ≤ gb173)); have n5_ := Aside0.mk ((by rw [hg]; exact Nat.ne_of_lt (blk_lt (g := gb170) (o := .cells #[.int .i64 a0_0, .int .i64 a0_1, .int .i64 a0_2, .slice A0_3 l0_3.length c0_3, .int .i64 a0_4, .int .i64 a0_5, .slice (some ad172) l0_6.length c0_6] 90 (0, 0)) (by (with_reducible repeat (first | refine blk_drewN ?_ _ | refine blk_drew ?_ | refine blk_alloc ?_ _)); exact BK170.out)) : gb170 ≠ gb173)); have n6_ := Aside0.mk ((by rw [hg]; exact Nat.ne_of_gt (blk_lt (g := gb170) (o := .cells #[.int .i64 a0_0, .int .i64 a0_1, .int .i64 a0_2, .slice A0_3 l0_3.length c0_3, .int .i64 a0_4, .int .i64 a0_5, .slice (some ad172) l0_6.length c0_6] 90 (0, 0)) (by (with_reducible repeat (first | refine blk_drewN ?_ _ | refine blk_drew ?_ | refine blk_alloc ?_ _)); exact BK170.out)) : gb173 ≠ gb170)); clear BK170; clear HB; have BK170 := n0_; have HB := n1_; have BK173 := n2_; have GW173 := n3_; have GE173 := n4_; have NB170_173 := n5_; have NB173_170 := n6_; clear n0_ n1_ n2_ n3_ n4_ n5_ n6_; clear hb hbox hg; have hnb50 := NB173_170.out; have hnc50 := NB170_173.out; have hcz51_0 : w49.cell? ⟨gb173, 0, none⟩ = some (.int .i64 0) := (blk_cell BK173.out 0).trans rfl; have hcz51_1 : w49.cell? ⟨gb173, 1, none⟩ = some (.int .i64 0) := (blk_cell BK173.out 1).trans rfl; have hcz51_2 : w49.cell? ⟨gb173, 2, none⟩ = some (.int .i64 0) := (blk_cell BK173.out 2).trans rfl; have hfz51_0 := blk_frozen BK173.out 0; have hfz51_1 := blk_frozen BK173.out 1; have hfz51_2 := blk_frozen BK173.out 2) | ((with_reducible refine gate_callee (f := 86) rfl ?_); refine goesL_ (some 47) rfl rfl Try.func86 (by kernel_rfl) rfl #[.int .i64 ((rd_T153 l0_6 x41_2).f0)] rfl (by (try simp only [List.map_toArray, List.map_cons, List.map_nil]); first | done | rfl | (simp only [List.length_drop, List.length_take]; rfl)) ?_; (with_reducible refine (impl_inVar.calls ((rd_T153 l0_6 x41_2).f0) true _ A32.out).mono ?_); rintro e w' ⟨rfl, ⟨nd, rfl⟩⟩; refine ⟨_, rfl, ?_⟩; have hcz52_0 : w49.cell? ⟨gb170, 0, none⟩ = some (.int .i64 a0_0) := (blk_cell BK170.out 0).trans rfl; have hcz52_1 : w49.cell? ⟨gb170, 1, none⟩ = some (.int .i64 a0_1) := (blk_cell BK170.out 1).trans rfl; have hcz52_2 : w49.cell? ⟨gb170, 2, none⟩ = some (.int .i64 a0_2) := (blk_cell BK170.out 2).trans rfl; have hcz52_3 : w49.cell? ⟨gb170, 3, none⟩ = some (.slice A0_3 l0_3.length c0_3) := (blk_cell BK170.out 3).trans rfl; have hcz52_4 : w49.cell? ⟨gb170, 4, none⟩ = some (.int .i64 a0_4) := (blk_cell BK170.out 4).trans rfl; have hcz52_5 : w49.cell? ⟨gb170, 5, none⟩ = some (.int .i64 a0_5) := (blk_cell BK170.out 5).trans rfl; have hcz52_6 : w49.cell? ⟨gb170, 6, none⟩ = some (.slice (some ad172) l0_6.length c0_6) := (blk_cell BK170.out 6).trans rfl; have hfz52_0 := blk_frozen BK170.out 0; have hfz52_1 := blk_frozen BK170.out 1; have hfz52_2 := blk_frozen BK170.out 2; have hfz52_3 := blk_frozen BK170.out 3; have hfz52_4 := blk_frozen BK170.out 4; have hfz52_5 := blk_frozen BK170.out 5; have hfz52_6 := blk_frozen BK170.out 6))
                            go_ret
                            exact ⟨by first | rfl | (simp [errW_none, errW_some] <;> rfl) | (simp [*, errW_none, errW_some] <;> rfl), by repeat (first | (with_reducible first | exact HB.out | apply below_alloc | apply pw_below_drewN | apply below_drew1 | refine below_set ?_ GE170.out | refine below_set ?_ GE173.out) | exact HB.out)⟩
                          · rw [if_neg c48] at H
                            have c48b0 : decide (((rd_T153 l0_6 x41_2).f1) ≤ ((rd_T153 l0_6 x41_2).f2)) = false := decide_eq_false c48
                            clear c48
                            have H' := Aside0.mk H
                            clear H
                            have p172 : 0 ≤ (x41_2 : Int) := of_decide_eq_true (by first | (with_reducible assumption) | assumption)
                            have q172 : x41_2 < (l0_6.length : Int) := of_decide_eq_true (by first | (with_reducible assumption) | assumption)
                            obtain ⟨ad172, e172, hx172_0, hx172_1, hx172_2⟩ := at_T153 HR0_6.out x41_2 p172 q172
                            cases e172
                            replace hx172_0 := (HB.out.cell (World.block_lt_of_cell? w _ hx172_0)).trans hx172_0
                            replace hx172_1 := (HB.out.cell (World.block_lt_of_cell? w _ hx172_1)).trans hx172_1
                            replace hx172_2 := (HB.out.cell (World.block_lt_of_cell? w _ hx172_2)).trans hx172_2
                            replace p172 := eq_true p172
                            replace q172 := eq_true q172
                            go_wp2_with (first | ((with_reducible refine gate_dst (N := 4) rfl ?_); (try (refine gate_guard (by rfl) ?_; dsimp only)); refine box_event ?hg (N := 4) ?hd (cs := #[.int .i64 0, .int .i64 0, .int .i64 0]) (t := 153) ?hr ?_; (case hd => rfl); (case hg => rfl); (case hr => first | (go_simp; done) | (go_simp; rfl)); intro gb173 hg w53 hbox hb; have n0_ := Aside0.mk (blk_below (g := gb170) (o := .cells #[.int .i64 a0_0, .int .i64 a0_1, .int .i64 a0_2, .slice A0_3 l0_3.length c0_3, .int .i64 a0_4, .int .i64 a0_5, .slice (some ad172) l0_6.length c0_6] 90 (0, 0)) (by (with_reducible repeat (first | refine blk_drewN ?_ _ | refine blk_drew ?_ | refine blk_alloc ?_ _)); exact BK170.out) hb); have n1_ := Aside0.mk (below_step (by repeat (first | (with_reducible first | exact HB.out | apply below_alloc | apply pw_below_drewN | apply below_drew1 | refine below_set ?_ GE170.out) | exact HB.out)) hb); have n2_ := Aside0.mk (hbox); have n3_ := Aside0.mk ((by rw [hg]; exact (below_size (by repeat (first | (with_reducible first | exact HB.out | apply below_alloc | apply pw_below_drewN | apply below_drew1 | refine below_set ?_ GE170.out) | exact HB.out))) : w.heap.size ≤ gb173)); have n4_ := Aside0.mk ((by rw [hg]; exact (below_size (by repeat (first | (with_reducible first | exact HB.out | apply below_alloc | apply pw_below_drewN | apply below_drew1 | refine below_set ?_ GE170.out) | exact HB.out))) : w.heap.size ≤ gb173)); have n5_ := Aside0.mk ((by rw [hg]; exact Nat.ne_of_lt (blk_lt (g := gb170) (o := .cells #[.int .i64 a0_0, .int .i64 a0_1, .int .i64 a0_2, .slice A0_3 l0_3.length c0_3, .int .i64 a0_4, .int .i64 a0_5, .slice (some ad172) l0_6.length c0_6] 90 (0, 0)) (by (with_reducible repeat (first | refine blk_drewN ?_ _ | refine blk_drew ?_ | refine blk_alloc ?_ _)); exact BK170.out)) : gb170 ≠ gb173)); have n6_ := Aside0.mk ((by rw [hg]; exact Nat.ne_of_gt (blk_lt (g := gb170) (o := .cells #[.int .i64 a0_0, .int .i64 a0_1, .int .i64 a0_2, .slice A0_3 l0_3.length c0_3, .int .i64 a0_4, .int .i64 a0_5, .slice (some ad172) l0_6.length c0_6] 90 (0, 0)) (by (with_reducible repeat (first | refine blk_drewN ?_ _ | refine blk_drew ?_ | refine blk_alloc ?_ _)); exact BK170.out)) : gb173 ≠ gb170)); clear BK170; clear HB; have BK170 := n0_; have HB := n1_; have BK173 := n2_; have GW173 := n3_; have GE173 := n4_; have NB170_173 := n5_; have NB173_170 := n6_; clear n0_ n1_ n2_ n3_ n4_ n5_ n6_; clear hb hbox hg; have hnb54 := NB173_170.out; have hnc54 := NB170_173.out; have hcz55_0 : w53.cell? ⟨gb173, 0, none⟩ = some (.int .i64 0) := (blk_cell BK173.out 0).trans rfl; have hcz55_1 : w53.cell? ⟨gb173, 1, none⟩ = some (.int .i64 0) := (blk_cell BK173.out 1).trans rfl; have hcz55_2 : w53.cell? ⟨gb173, 2, none⟩ = some (.int .i64 0) := (blk_cell BK173.out 2).trans rfl; have hfz55_0 := blk_frozen BK173.out 0; have hfz55_1 := blk_frozen BK173.out 1; have hfz55_2 := blk_frozen BK173.out 2) | ((with_reducible refine gate_callee (f := 86) rfl ?_); refine goesL_ (some 47) rfl rfl Try.func86 (by kernel_rfl) rfl #[.int .i64 ((rd_T153 l0_6 x41_2).f0)] rfl (by (try simp only [List.map_toArray, List.map_cons, List.map_nil]); first | done | rfl | (simp only [List.length_drop, List.length_take]; rfl)) ?_; (with_reducible refine (impl_inVar.calls ((rd_T153 l0_6 x41_2).f0) true _ A32.out).mono ?_); rintro e w' ⟨rfl, ⟨nd, rfl⟩⟩; refine ⟨_, rfl, ?_⟩; have hcz56_0 : w53.cell? ⟨gb170, 0, none⟩ = some (.int .i64 a0_0) := (blk_cell BK170.out 0).trans rfl; have hcz56_1 : w53.cell? ⟨gb170, 1, none⟩ = some (.int .i64 a0_1) := (blk_cell BK170.out 1).trans rfl; have hcz56_2 : w53.cell? ⟨gb170, 2, none⟩ = some (.int .i64 a0_2) := (blk_cell BK170.out 2).trans rfl; have hcz56_3 : w53.cell? ⟨gb170, 3, none⟩ = some (.slice A0_3 l0_3.length c0_3) := (blk_cell BK170.out 3).trans rfl; have hcz56_4 : w53.cell? ⟨gb170, 4, none⟩ = some (.int .i64 a0_4) := (blk_cell BK170.out 4).trans rfl; have hcz56_5 : w53.cell? ⟨gb170, 5, none⟩ = some (.int .i64 a0_5) := (blk_cell BK170.out 5).trans rfl; have hcz56_6 : w53.cell? ⟨gb170, 6, none⟩ = some (.slice (some ad172) l0_6.length c0_6) := (blk_cell BK170.out 6).trans rfl; have hfz56_0 := blk_frozen BK170.out 0; have hfz56_1 := blk_frozen BK170.out 1; have hfz56_2 := blk_frozen BK170.out 2; have hfz56_3 := blk_frozen BK170.out 3; have hfz56_4 := blk_frozen BK170.out 4; have hfz56_5 := blk_frozen BK170.out 5; have hfz56_6 := blk_frozen BK170.out 6))
                            go_roundg k2
                            case measure => have := HJ1.out; have := HK2.out; omega
                            case rel => exact ⟨(wrap64 (x41_2 + 1)), (by first | rfl | (simp; done) | (simp [*]; done)), H', ⟨by have := HJ1.out; have := HK2.out; omega⟩, ⟨by (with_reducible repeat (first | refine blk_drewN ?_ _ | refine blk_drew ?_ | refine blk_alloc ?_ _)); refine blk_far ?_ NB170_173.out _; (with_reducible repeat (first | refine blk_drewN ?_ _ | refine blk_drew ?_ | refine blk_alloc ?_ _)); refine blk_far ?_ NB170_173.out _; (with_reducible repeat (first | refine blk_drewN ?_ _ | refine blk_drew ?_ | refine blk_alloc ?_ _)); refine blk_far ?_ NB170_173.out _; (with_reducible repeat (first | refine blk_drewN ?_ _ | refine blk_drew ?_ | refine blk_alloc ?_ _)); exact BK170.out⟩, ⟨by repeat (first | (with_reducible first | exact HB.out | apply below_alloc | apply pw_below_drewN | apply below_drew1 | refine below_set ?_ GE170.out | refine below_set ?_ GE173.out) | exact HB.out)⟩⟩
                  · replace c33 := Bool.eq_false_iff.mpr c33
                    subst c33
                    have H1 : (some false) = some r := by rw [if_neg (show ¬ (false = true) by decide)] at H; exact H
                    clear H
                    have H := H1
                    clear H1
                    obtain rfl := Option.some.inj H
                    have p172 : 0 ≤ (x41_2 : Int) := of_decide_eq_true (by first | (with_reducible assumption) | assumption)
                    have q172 : x41_2 < (l0_6.length : Int) := of_decide_eq_true (by first | (with_reducible assumption) | assumption)
                    obtain ⟨ad172, e172, hx172_0, hx172_1, hx172_2⟩ := at_T153 HR0_6.out x41_2 p172 q172
                    cases e172
                    replace hx172_0 := (HB.out.cell (World.block_lt_of_cell? w _ hx172_0)).trans hx172_0
                    replace hx172_1 := (HB.out.cell (World.block_lt_of_cell? w _ hx172_1)).trans hx172_1
                    replace hx172_2 := (HB.out.cell (World.block_lt_of_cell? w _ hx172_2)).trans hx172_2
                    replace p172 := eq_true p172
                    replace q172 := eq_true q172
                    go_wp2_with (first | ((with_reducible refine gate_dst (N := 4) rfl ?_); (try (refine gate_guard (by rfl) ?_; dsimp only)); refine box_event ?hg (N := 4) ?hd (cs := #[.int .i64 0, .int .i64 0, .int .i64 0]) (t := 153) ?hr ?_; (case hd => rfl); (case hg => rfl); (case hr => first | (go_simp; done) | (go_simp; rfl)); intro gb173 hg w57 hbox hb; have n0_ := Aside0.mk (blk_below (g := gb170) (o := .cells #[.int .i64 a0_0, .int .i64 a0_1, .int .i64 a0_2, .slice A0_3 l0_3.length c0_3, .int .i64 a0_4, .int .i64 a0_5, .slice (some ad172) l0_6.length c0_6] 90 (0, 0)) (by (with_reducible repeat (first | refine blk_drewN ?_ _ | refine blk_drew ?_ | refine blk_alloc ?_ _)); exact BK170.out) hb); have n1_ := Aside0.mk (below_step (by repeat (first | (with_reducible first | exact HB.out | apply below_alloc | apply pw_below_drewN | apply below_drew1 | refine below_set ?_ GE170.out) | exact HB.out)) hb); have n2_ := Aside0.mk (hbox); have n3_ := Aside0.mk ((by rw [hg]; exact (below_size (by repeat (first | (with_reducible first | exact HB.out | apply below_alloc | apply pw_below_drewN | apply below_drew1 | refine below_set ?_ GE170.out) | exact HB.out))) : w.heap.size ≤ gb173)); have n4_ := Aside0.mk ((by rw [hg]; exact (below_size (by repeat (first | (with_reducible first | exact HB.out | apply below_alloc | apply pw_below_drewN | apply below_drew1 | refine below_set ?_ GE170.out) | exact HB.out))) : w.heap.size ≤ gb173)); have n5_ := Aside0.mk ((by rw [hg]; exact Nat.ne_of_lt (blk_lt (g := gb170) (o := .cells #[.int .i64 a0_0, .int .i64 a0_1, .int .i64 a0_2, .slice A0_3 l0_3.length c0_3, .int .i64 a0_4, .int .i64 a0_5, .slice (some ad172) l0_6.length c0_6] 90 (0, 0)) (by (with_reducible repeat (first | refine blk_drewN ?_ _ | refine blk_drew ?_ | refine blk_alloc ?_ _)); exact BK170.out)) : gb170 ≠ gb173)); have n6_ := Aside0.mk ((by rw [hg]; exact Nat.ne_of_gt (blk_lt (g := gb170) (o := .cells #[.int .i64 a0_0, .int .i64 a0_1, .int .i64 a0_2, .slice A0_3 l0_3.length c0_3, .int .i64 a0_4, .int .i64 a0_5, .slice (some ad172) l0_6.length c0_6] 90 (0, 0)) (by (with_reducible repeat (first | refine blk_drewN ?_ _ | refine blk_drew ?_ | refine blk_alloc ?_ _)); exact BK170.out)) : gb173 ≠ gb170)); clear BK170; clear HB; have BK170 := n0_; have HB := n1_; have BK173 := n2_; have GW173 := n3_; have GE173 := n4_; have NB170_173 := n5_; have NB173_170 := n6_; clear n0_ n1_ n2_ n3_ n4_ n5_ n6_; clear hb hbox hg; have hnb58 := NB173_170.out; have hnc58 := NB170_173.out; have hcz59_0 : w57.cell? ⟨gb173, 0, none⟩ = some (.int .i64 0) := (blk_cell BK173.out 0).trans rfl; have hcz59_1 : w57.cell? ⟨gb173, 1, none⟩ = some (.int .i64 0) := (blk_cell BK173.out 1).trans rfl; have hcz59_2 : w57.cell? ⟨gb173, 2, none⟩ = some (.int .i64 0) := (blk_cell BK173.out 2).trans rfl; have hfz59_0 := blk_frozen BK173.out 0; have hfz59_1 := blk_frozen BK173.out 1; have hfz59_2 := blk_frozen BK173.out 2) | ((with_reducible refine gate_callee (f := 86) rfl ?_); refine goesL_ (some 47) rfl rfl Try.func86 (by kernel_rfl) rfl #[.int .i64 ((rd_T153 l0_6 x41_2).f0)] rfl (by (try simp only [List.map_toArray, List.map_cons, List.map_nil]); first | done | rfl | (simp only [List.length_drop, List.length_take]; rfl)) ?_; (with_reducible refine (impl_inVar.calls ((rd_T153 l0_6 x41_2).f0) false _ A32.out).mono ?_); rintro e w' ⟨rfl, ⟨nd, rfl⟩⟩; refine ⟨_, rfl, ?_⟩))
                    go_ret
                    exact ⟨by first | rfl | (simp [errW_none, errW_some] <;> rfl) | (simp [*, errW_none, errW_some] <;> rfl), by repeat (first | (with_reducible first | exact HB.out | apply below_alloc | apply pw_below_drewN | apply below_drew1 | refine below_set ?_ GE170.out | refine below_set ?_ GE173.out) | exact HB.out)⟩
                · rw [if_neg c31] at H
                  exact absurd H (by simp)
              · rw [if_neg c30] at H
                exact absurd H (by simp)
            · rw [if_neg c29] at H
              have c29b0 : decide (x41_2 < (l0_6.length : Int)) = false := decide_eq_false c29
              clear c29
              obtain rfl := Option.some.inj H
              go_wp2
              go_ret
              exact ⟨by first | rfl | (simp [errW_none, errW_some] <;> rfl) | (simp [*, errW_none, errW_some] <;> rfl), by repeat (first | (with_reducible first | exact HB.out | apply below_alloc | apply pw_below_drewN | apply below_drew1 | refine below_set ?_ GE170.out) | exact HB.out)⟩

/-! ### laws_eqField: function 17 -/
def laws_eqField.f (a0_0 : ByteArray) (a0_1 : ByteArray) (a1_0 : ByteArray) (a1_1 : ByteArray) : Option (Bool) := if a0_0.toList = a1_0.toList then (if a0_1.toList = a1_1.toList then (some true) else (some false)) else (some false)
set_option maxHeartbeats 8000000 in
set_option maxRecDepth 100000 in
theorem laws_eqField.calls (a0_0 : ByteArray) (a0_1 : ByteArray) (a1_0 : ByteArray) (a1_1 : ByteArray) (r : Bool) (w : World) (h : laws_eqField.f a0_0 a0_1 a1_0 a1_1 = some r) :
    Calls Try.prog 17 #[.agg #[.string a0_0, .string a0_1], .agg #[.string a1_0, .string a1_1]] w fun e w' => e = .returned (.bool r) ∧ Below w.heap.size w w' := by
  have hu23 := Try.underlying23
  have HB := Aside0.mk (Below.refl w.heap.size w)
  have H : (if a0_0.toList = a1_0.toList then (if a0_1.toList = a1_1.toList then (some true) else (some false)) else (some false)) = some r := h
  clear h
  by_cases c3 : a0_0.toList = a1_0.toList
  · rw [if_pos c3] at H
    have c3b0 : (a0_0.toList == a1_0.toList) = true := beq_iff_eq.mpr c3
    have c3b1 : (a0_0.toList != a1_0.toList) = false := bne_eq_false_iff_eq.mpr c3
    clear c3
    by_cases c4 : a0_1.toList = a1_1.toList
    · rw [if_pos c4] at H
      have c4b0 : (a0_1.toList == a1_1.toList) = true := beq_iff_eq.mpr c4
      have c4b1 : (a0_1.toList != a1_1.toList) = false := bne_eq_false_iff_eq.mpr c4
      clear c4
      obtain rfl := Option.some.inj H
      go_enter Try.func17, Try.ntmps17
      go_wp2_with (first | ((with_reducible refine gate_dst (N := 2) rfl ?_); refine box_event ?hg (N := 2) ?hd (cs := #[.string a0_0, .string a0_1]) (t := 23) ?hr ?_; (case hd => rfl); (case hg => rfl); (case hr => first | (go_simp; done) | (go_simp; rfl)); intro gb175 hg w5 hbox hb; have n0_ := Aside0.mk (below_step (by repeat (first | (with_reducible first | exact HB.out | apply below_alloc | apply pw_below_drewN | apply below_drew1) | exact HB.out)) hb); have n1_ := Aside0.mk (hbox); have n2_ := Aside0.mk ((by rw [hg]; exact (below_size (by repeat (first | (with_reducible first | exact HB.out | apply below_alloc | apply pw_below_drewN | apply below_drew1) | exact HB.out))) : w.heap.size ≤ gb175)); have n3_ := Aside0.mk ((by rw [hg]; exact (below_size (by repeat (first | (with_reducible first | exact HB.out | apply below_alloc | apply pw_below_drewN | apply below_drew1) | exact HB.out))) : w.heap.size ≤ gb175)); clear HB; have HB := n0_; have BK175 := n1_; have GW175 := n2_; have GE175 := n3_; clear n0_ n1_ n2_ n3_; clear hb hbox hg) | ((with_reducible refine gate_dst (N := 3) rfl ?_); refine box_event ?hg (N := 3) ?hd (cs := #[.string a1_0, .string a1_1]) (t := 23) ?hr ?_; (case hd => rfl); (case hg => rfl); (case hr => first | (go_simp; done) | (go_simp; rfl)); intro gb176 hg w6 hbox hb; have n0_ := Aside0.mk (blk_below (g := gb175) (o := .cells #[.string a0_0, .string a0_1] 23 (0, 0)) (by (with_reducible repeat (first | refine blk_drewN ?_ _ | refine blk_drew ?_ | refine blk_alloc ?_ _)); exact BK175.out) hb); have n1_ := Aside0.mk (below_step (by repeat (first | (with_reducible first | exact HB.out | apply below_alloc | apply pw_below_drewN | apply below_drew1 | refine below_set ?_ GE175.out) | exact HB.out)) hb); have n2_ := Aside0.mk (hbox); have n3_ := Aside0.mk ((by rw [hg]; exact (below_size (by repeat (first | (with_reducible first | exact HB.out | apply below_alloc | apply pw_below_drewN | apply below_drew1 | refine below_set ?_ GE175.out) | exact HB.out))) : w.heap.size ≤ gb176)); have n4_ := Aside0.mk ((by rw [hg]; exact (below_size (by repeat (first | (with_reducible first | exact HB.out | apply below_alloc | apply pw_below_drewN | apply below_drew1 | refine below_set ?_ GE175.out) | exact HB.out))) : w.heap.size ≤ gb176)); have n5_ := Aside0.mk ((by rw [hg]; exact Nat.ne_of_lt (blk_lt (g := gb175) (o := .cells #[.string a0_0, .string a0_1] 23 (0, 0)) (by (with_reducible repeat (first | refine blk_drewN ?_ _ | refine blk_drew ?_ | refine blk_alloc ?_ _)); exact BK175.out)) : gb175 ≠ gb176)); have n6_ := Aside0.mk ((by rw [hg]; exact Nat.ne_of_gt (blk_lt (g := gb175) (o := .cells #[.string a0_0, .string a0_1] 23 (0, 0)) (by (with_reducible repeat (first | refine blk_drewN ?_ _ | refine blk_drew ?_ | refine blk_alloc ?_ _)); exact BK175.out)) : gb176 ≠ gb175)); clear BK175; clear HB; have BK175 := n0_; have HB := n1_; have BK176 := n2_; have GW176 := n3_; have GE176 := n4_; have NB175_176 := n5_; have NB176_175 := n6_; clear n0_ n1_ n2_ n3_ n4_ n5_ n6_; clear hb hbox hg; have hnb7 := NB175_176.out; have hnc7 := NB176_175.out; have hcz8_0 : w6.cell? ⟨gb175, 0, none⟩ = some (.string a0_0) := (blk_cell BK175.out 0).trans rfl; have hcz8_1 : w6.cell? ⟨gb175, 1, none⟩ = some (.string a0_1) := (blk_cell BK175.out 1).trans rfl; have hfz8_0 := blk_frozen BK175.out 0; have hfz8_1 := blk_frozen BK175.out 1; have hcz9_0 : w6.cell? ⟨gb176, 0, none⟩ = some (.string a1_0) := (blk_cell BK176.out 0).trans rfl; have hcz9_1 : w6.cell? ⟨gb176, 1, none⟩ = some (.string a1_1) := (blk_cell BK176.out 1).trans rfl; have hfz9_0 := blk_frozen BK176.out 0; have hfz9_1 := blk_frozen BK176.out 1))
      go_ret
      exact ⟨by first | rfl | (simp [errW_none, errW_some] <;> rfl) | (simp [*, errW_none, errW_some] <;> rfl), by repeat (first | (with_reducible first | exact HB.out | apply below_alloc | apply pw_below_drewN | apply below_drew1 | refine below_set ?_ GE175.out | refine below_set ?_ GE176.out) | exact HB.out)⟩
    · rw [if_neg c4] at H
      have c4b0 : (a0_1.toList == a1_1.toList) = false := beq_eq_false_iff_ne.mpr c4
      have c4b1 : (a0_1.toList != a1_1.toList) = true := bne_iff_ne.mpr c4
      obtain rfl := Option.some.inj H
      go_enter Try.func17, Try.ntmps17
      go_wp2_with (first | ((with_reducible refine gate_dst (N := 2) rfl ?_); refine box_event ?hg (N := 2) ?hd (cs := #[.string a0_0, .string a0_1]) (t := 23) ?hr ?_; (case hd => rfl); (case hg => rfl); (case hr => first | (go_simp; done) | (go_simp; rfl)); intro gb175 hg w10 hbox hb; have n0_ := Aside0.mk (below_step (by repeat (first | (with_reducible first | exact HB.out | apply below_alloc | apply pw_below_drewN | apply below_drew1) | exact HB.out)) hb); have n1_ := Aside0.mk (hbox); have n2_ := Aside0.mk ((by rw [hg]; exact (below_size (by repeat (first | (with_reducible first | exact HB.out | apply below_alloc | apply pw_below_drewN | apply below_drew1) | exact HB.out))) : w.heap.size ≤ gb175)); have n3_ := Aside0.mk ((by rw [hg]; exact (below_size (by repeat (first | (with_reducible first | exact HB.out | apply below_alloc | apply pw_below_drewN | apply below_drew1) | exact HB.out))) : w.heap.size ≤ gb175)); clear HB; have HB := n0_; have BK175 := n1_; have GW175 := n2_; have GE175 := n3_; clear n0_ n1_ n2_ n3_; clear hb hbox hg) | ((with_reducible refine gate_dst (N := 3) rfl ?_); refine box_event ?hg (N := 3) ?hd (cs := #[.string a1_0, .string a1_1]) (t := 23) ?hr ?_; (case hd => rfl); (case hg => rfl); (case hr => first | (go_simp; done) | (go_simp; rfl)); intro gb176 hg w11 hbox hb; have n0_ := Aside0.mk (blk_below (g := gb175) (o := .cells #[.string a0_0, .string a0_1] 23 (0, 0)) (by (with_reducible repeat (first | refine blk_drewN ?_ _ | refine blk_drew ?_ | refine blk_alloc ?_ _)); exact BK175.out) hb); have n1_ := Aside0.mk (below_step (by repeat (first | (with_reducible first | exact HB.out | apply below_alloc | apply pw_below_drewN | apply below_drew1 | refine below_set ?_ GE175.out) | exact HB.out)) hb); have n2_ := Aside0.mk (hbox); have n3_ := Aside0.mk ((by rw [hg]; exact (below_size (by repeat (first | (with_reducible first | exact HB.out | apply below_alloc | apply pw_below_drewN | apply below_drew1 | refine below_set ?_ GE175.out) | exact HB.out))) : w.heap.size ≤ gb176)); have n4_ := Aside0.mk ((by rw [hg]; exact (below_size (by repeat (first | (with_reducible first | exact HB.out | apply below_alloc | apply pw_below_drewN | apply below_drew1 | refine below_set ?_ GE175.out) | exact HB.out))) : w.heap.size ≤ gb176)); have n5_ := Aside0.mk ((by rw [hg]; exact Nat.ne_of_lt (blk_lt (g := gb175) (o := .cells #[.string a0_0, .string a0_1] 23 (0, 0)) (by (with_reducible repeat (first | refine blk_drewN ?_ _ | refine blk_drew ?_ | refine blk_alloc ?_ _)); exact BK175.out)) : gb175 ≠ gb176)); have n6_ := Aside0.mk ((by rw [hg]; exact Nat.ne_of_gt (blk_lt (g := gb175) (o := .cells #[.string a0_0, .string a0_1] 23 (0, 0)) (by (with_reducible repeat (first | refine blk_drewN ?_ _ | refine blk_drew ?_ | refine blk_alloc ?_ _)); exact BK175.out)) : gb176 ≠ gb175)); clear BK175; clear HB; have BK175 := n0_; have HB := n1_; have BK176 := n2_; have GW176 := n3_; have GE176 := n4_; have NB175_176 := n5_; have NB176_175 := n6_; clear n0_ n1_ n2_ n3_ n4_ n5_ n6_; clear hb hbox hg; have hnb12 := NB175_176.out; have hnc12 := NB176_175.out; have hcz13_0 : w11.cell? ⟨gb175, 0, none⟩ = some (.string a0_0) := (blk_cell BK175.out 0).trans rfl; have hcz13_1 : w11.cell? ⟨gb175, 1, none⟩ = some (.string a0_1) := (blk_cell BK175.out 1).trans rfl; have hfz13_0 := blk_frozen BK175.out 0; have hfz13_1 := blk_frozen BK175.out 1; have hcz14_0 : w11.cell? ⟨gb176, 0, none⟩ = some (.string a1_0) := (blk_cell BK176.out 0).trans rfl; have hcz14_1 : w11.cell? ⟨gb176, 1, none⟩ = some (.string a1_1) := (blk_cell BK176.out 1).trans rfl; have hfz14_0 := blk_frozen BK176.out 0; have hfz14_1 := blk_frozen BK176.out 1))
      go_ret
      exact ⟨by first | rfl | (simp [errW_none, errW_some] <;> rfl) | (simp [*, errW_none, errW_some] <;> rfl), by repeat (first | (with_reducible first | exact HB.out | apply below_alloc | apply pw_below_drewN | apply below_drew1 | refine below_set ?_ GE175.out | refine below_set ?_ GE176.out) | exact HB.out)⟩
  · rw [if_neg c3] at H
    have c3b0 : (a0_0.toList == a1_0.toList) = false := beq_eq_false_iff_ne.mpr c3
    have c3b1 : (a0_0.toList != a1_0.toList) = true := bne_iff_ne.mpr c3
    obtain rfl := Option.some.inj H
    go_enter Try.func17, Try.ntmps17
    go_wp2_with (first | ((with_reducible refine gate_dst (N := 2) rfl ?_); refine box_event ?hg (N := 2) ?hd (cs := #[.string a0_0, .string a0_1]) (t := 23) ?hr ?_; (case hd => rfl); (case hg => rfl); (case hr => first | (go_simp; done) | (go_simp; rfl)); intro gb175 hg w15 hbox hb; have n0_ := Aside0.mk (below_step (by repeat (first | (with_reducible first | exact HB.out | apply below_alloc | apply pw_below_drewN | apply below_drew1) | exact HB.out)) hb); have n1_ := Aside0.mk (hbox); have n2_ := Aside0.mk ((by rw [hg]; exact (below_size (by repeat (first | (with_reducible first | exact HB.out | apply below_alloc | apply pw_below_drewN | apply below_drew1) | exact HB.out))) : w.heap.size ≤ gb175)); have n3_ := Aside0.mk ((by rw [hg]; exact (below_size (by repeat (first | (with_reducible first | exact HB.out | apply below_alloc | apply pw_below_drewN | apply below_drew1) | exact HB.out))) : w.heap.size ≤ gb175)); clear HB; have HB := n0_; have BK175 := n1_; have GW175 := n2_; have GE175 := n3_; clear n0_ n1_ n2_ n3_; clear hb hbox hg) | ((with_reducible refine gate_dst (N := 3) rfl ?_); refine box_event ?hg (N := 3) ?hd (cs := #[.string a1_0, .string a1_1]) (t := 23) ?hr ?_; (case hd => rfl); (case hg => rfl); (case hr => first | (go_simp; done) | (go_simp; rfl)); intro gb176 hg w16 hbox hb; have n0_ := Aside0.mk (blk_below (g := gb175) (o := .cells #[.string a0_0, .string a0_1] 23 (0, 0)) (by (with_reducible repeat (first | refine blk_drewN ?_ _ | refine blk_drew ?_ | refine blk_alloc ?_ _)); exact BK175.out) hb); have n1_ := Aside0.mk (below_step (by repeat (first | (with_reducible first | exact HB.out | apply below_alloc | apply pw_below_drewN | apply below_drew1 | refine below_set ?_ GE175.out) | exact HB.out)) hb); have n2_ := Aside0.mk (hbox); have n3_ := Aside0.mk ((by rw [hg]; exact (below_size (by repeat (first | (with_reducible first | exact HB.out | apply below_alloc | apply pw_below_drewN | apply below_drew1 | refine below_set ?_ GE175.out) | exact HB.out))) : w.heap.size ≤ gb176)); have n4_ := Aside0.mk ((by rw [hg]; exact (below_size (by repeat (first | (with_reducible first | exact HB.out | apply below_alloc | apply pw_below_drewN | apply below_drew1 | refine below_set ?_ GE175.out) | exact HB.out))) : w.heap.size ≤ gb176)); have n5_ := Aside0.mk ((by rw [hg]; exact Nat.ne_of_lt (blk_lt (g := gb175) (o := .cells #[.string a0_0, .string a0_1] 23 (0, 0)) (by (with_reducible repeat (first | refine blk_drewN ?_ _ | refine blk_drew ?_ | refine blk_alloc ?_ _)); exact BK175.out)) : gb175 ≠ gb176)); have n6_ := Aside0.mk ((by rw [hg]; exact Nat.ne_of_gt (blk_lt (g := gb175) (o := .cells #[.string a0_0, .string a0_1] 23 (0, 0)) (by (with_reducible repeat (first | refine blk_drewN ?_ _ | refine blk_drew ?_ | refine blk_alloc ?_ _)); exact BK175.out)) : gb176 ≠ gb175)); clear BK175; clear HB; have BK175 := n0_; have HB := n1_; have BK176 := n2_; have GW176 := n3_; have GE176 := n4_; have NB175_176 := n5_; have NB176_175 := n6_; clear n0_ n1_ n2_ n3_ n4_ n5_ n6_; clear hb hbox hg; have hnb17 := NB175_176.out; have hnc17 := NB176_175.out; have hcz18_0 : w16.cell? ⟨gb175, 0, none⟩ = some (.string a0_0) := (blk_cell BK175.out 0).trans rfl; have hcz18_1 : w16.cell? ⟨gb175, 1, none⟩ = some (.string a0_1) := (blk_cell BK175.out 1).trans rfl; have hfz18_0 := blk_frozen BK175.out 0; have hfz18_1 := blk_frozen BK175.out 1; have hcz19_0 : w16.cell? ⟨gb176, 0, none⟩ = some (.string a1_0) := (blk_cell BK176.out 0).trans rfl; have hcz19_1 : w16.cell? ⟨gb176, 1, none⟩ = some (.string a1_1) := (blk_cell BK176.out 1).trans rfl; have hfz19_0 := blk_frozen BK176.out 0; have hfz19_1 := blk_frozen BK176.out 1))
    go_ret
    exact ⟨by first | rfl | (simp [errW_none, errW_some] <;> rfl) | (simp [*, errW_none, errW_some] <;> rfl), by repeat (first | (with_reducible first | exact HB.out | apply below_alloc | apply pw_below_drewN | apply below_drew1 | refine below_set ?_ GE175.out | refine below_set ?_ GE176.out) | exact HB.out)⟩

end Go.Proofs.Ytjhcphcjpndciaa.PFnExactEncoderOK
