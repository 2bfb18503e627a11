-- Written by a program of this repo (xprint.py) out of the translation; Lean checks it. SHRUNK
import Derived.Test.YtjhcphcjpndciaaPFnExactTableAddx0
import Derived.Test.YtjhcphcjpndciaaPFnExactTableAddx4
namespace Go.Proofs.Ytjhcphcjpndciaa.PFnExactTableAdd
open Go.RowKit Go.Proofs.YtjhcphcjpndciaaW.PrintWords Go.Proofs.YtjhcphcjpndciaaW.PrintLast Go.Proofs.YtjhcphcjpndciaaW.PrintMore
attribute [local go_sem] max2_int min2_int max_two min_two max_three min_three max_four min_four   -- for this text's walks alone
set_option linter.unusedVariables false
set_option linter.unusedSimpArgs false

/-! ### spec_TableOK: function 39 -/
mutual
def spec_TableOK.j0 : Nat → Bool → Int → Int → Int → List (S23) → Option (Bool)
  | 0, _, _, _, _, _ => none
  | k + 1, x42, x151000, x151001, x151002, x151003 => if x42 = true then (some false) else (spec_TableOK.l0 k 0 x151000 x151001 x151002 x151003)
def spec_TableOK.l0 : Nat → Int → Int → Int → Int → List (S23) → Option (Bool)
  | 0, _, _, _, _, _ => none
  | k + 1, x3, x151000, x151001, x151002, x151003 => if x3 < (x151003.length : Int) then (if 0 ≤ x3 then ((spec_l14FieldOK.f k ((rd_T23 x151003 x3).f0) ((rd_T23 x151003 x3).f1)).bind fun t152 => (if t152 = true then (spec_TableOK.l0 k (wrap64 (x3 + 1)) x151000 x151001 x151002 x151003) else (some false))) else (none)) else ((spec_l14Costs.f k x151003).bind fun t153 => (some (decide (t153 ≤ x151001))))
end
def spec_TableOK.f (k : Nat) (a0_0 : Int) (a0_1 : Int) (a0_2 : Int) (l0_3 : List (S23)) : Option (Bool) := if a0_0 < 0 then (spec_TableOK.j0 k true a0_0 a0_1 a0_2 l0_3) else (if a0_0 > 4096 then (spec_TableOK.j0 k true a0_0 a0_1 a0_2 l0_3) else (if a0_1 < 0 then (spec_TableOK.j0 k true a0_0 a0_1 a0_2 l0_3) else (if a0_1 > a0_0 then (spec_TableOK.j0 k true a0_0 a0_1 a0_2 l0_3) else (if a0_2 < (l0_3.length : Int) then (spec_TableOK.j0 k true a0_0 a0_1 a0_2 l0_3) else (if a0_2 > 4611686018427387902 then (spec_TableOK.j0 k true a0_0 a0_1 a0_2 l0_3) else (spec_TableOK.j0 k (decide ((l0_3.length : Int) > 4096)) a0_0 a0_1 a0_2 l0_3))))))
theorem spec_TableOK.mono_l : ∀ k, (∀ y0 y1 y2 y3 y4, LeO (spec_TableOK.j0 k y0 y1 y2 y3 y4) (spec_TableOK.j0 (k + 1) y0 y1 y2 y3 y4)) ∧ (∀ y0 y1 y2 y3 y4, LeO (spec_TableOK.l0 k y0 y1 y2 y3 y4) (spec_TableOK.l0 (k + 1) y0 y1 y2 y3 y4))
  | 0 => ⟨fun _ _ _ _ _ r h => by simp [spec_TableOK.j0] at h, fun _ _ _ _ _ r h => by simp [spec_TableOK.l0] at h⟩
  | k + 1 => by
    obtain ⟨ih0, ih1⟩ := spec_TableOK.mono_l k
    refine ⟨?_, ?_⟩
    · intro y0 y1 y2 y3 y4
      unfold spec_TableOK.j0
      repeat' first
      | (with_reducible exact ih0 _ _ _ _ _)
      | (with_reducible exact ih1 _ _ _ _ _)
      | (with_reducible exact spec_l14Costs.mono _ _)
      | (with_reducible exact spec_l14FieldOK.mono _ _ _)
      | (with_reducible exact LeO.refl _)
      | (with_reducible exact LeO.none _)
      | (with_reducible refine LeO.ite ?_ ?_)
      | (with_reducible refine LeO.bind ?_ (fun _ => ?_))
      | exact ih0 _ _ _ _ _
      | exact ih1 _ _ _ _ _
      | exact spec_l14Costs.mono _ _
      | exact spec_l14FieldOK.mono _ _ _
      | exact LeO.none _
      | refine LeO.ite ?_ ?_
      | refine LeO.bind ?_ (fun _ => ?_)
    · intro y0 y1 y2 y3 y4
      unfold spec_TableOK.l0
      repeat' first
      | (with_reducible exact ih0 _ _ _ _ _)
      | (with_reducible exact ih1 _ _ _ _ _)
      | (with_reducible exact spec_l14Costs.mono _ _)
      | (with_reducible exact spec_l14FieldOK.mono _ _ _)
      | (with_reducible exact LeO.refl _)
      | (with_reducible exact LeO.none _)
      | (with_reducible refine LeO.ite ?_ ?_)
      | (with_reducible refine LeO.bind ?_ (fun _ => ?_))
      | exact ih0 _ _ _ _ _
      | exact ih1 _ _ _ _ _
      | exact spec_l14Costs.mono _ _
      | exact spec_l14FieldOK.mono _ _ _
      | exact LeO.none _
      | refine LeO.ite ?_ ?_
      | refine LeO.bind ?_ (fun _ => ?_)
theorem spec_TableOK.mono : ∀ a0 a1 a2 a3 k, LeO (spec_TableOK.f k a0 a1 a2 a3) (spec_TableOK.f (k + 1) a0 a1 a2 a3) := by
  intro a0 a1 a2 a3 k
  obtain ⟨ih0, ih1⟩ := spec_TableOK.mono_l k
  unfold spec_TableOK.f
  repeat' first
      | (with_reducible exact ih0 _ _ _ _ _)
      | (with_reducible exact ih1 _ _ _ _ _)
      | (with_reducible exact spec_l14Costs.mono _ _)
      | (with_reducible exact spec_l14FieldOK.mono _ _ _)
      | (with_reducible exact LeO.refl _)
      | (with_reducible exact LeO.none _)
      | (with_reducible refine LeO.ite ?_ ?_)
      | (with_reducible refine LeO.bind ?_ (fun _ => ?_))
      | exact ih0 _ _ _ _ _
      | exact ih1 _ _ _ _ _
      | exact spec_l14Costs.mono _ _
      | exact spec_l14FieldOK.mono _ _ _
      | exact LeO.none _
      | refine LeO.ite ?_ ?_
      | refine LeO.bind ?_ (fun _ => ?_)
set_option maxHeartbeats 8000000 in
set_option maxRecDepth 100000 in
theorem spec_TableOK.calls (k : Nat) (a0_0 : Int) (a0_1 : Int) (a0_2 : Int) (A0_3 : Option Addr) (c0_3 : Nat) (l0_3 : List (S23)) (r : Bool) (w : World) (hr0_3 : Kd.C k23 w A0_3 l0_3.length l0_3) (hc0_3 : l0_3.length ≤ c0_3) (h : spec_TableOK.f k a0_0 a0_1 a0_2 l0_3 = some r) :
    Calls Try.prog 39 #[.agg #[.int .i64 a0_0, .int .i64 a0_1, .int .i64 a0_2, .slice A0_3 l0_3.length c0_3]] w fun e w' => e = .returned (.bool r) ∧ Below w.heap.size w w' := by
  have hu69 := Try.underlying69
  have hu23 := Try.underlying23
  have HR0_3 := Aside0.mk hr0_3
  have HC0_3 := Aside0.mk hc0_3
  clear hr0_3 hc0_3
  have HB := am (Below.refl w.heap.size w)
  have H : (if a0_0 < 0 then (spec_TableOK.j0 k true a0_0 a0_1 a0_2 l0_3) else (if a0_0 > 4096 then (spec_TableOK.j0 k true a0_0 a0_1 a0_2 l0_3) else (if a0_1 < 0 then (spec_TableOK.j0 k true a0_0 a0_1 a0_2 l0_3) else (if a0_1 > a0_0 then (spec_TableOK.j0 k true a0_0 a0_1 a0_2 l0_3) else (if a0_2 < (l0_3.length : Int) then (spec_TableOK.j0 k true a0_0 a0_1 a0_2 l0_3) else (if a0_2 > 4611686018427387902 then (spec_TableOK.j0 k true a0_0 a0_1 a0_2 l0_3) else (spec_TableOK.j0 k (decide ((l0_3.length : Int) > 4096)) a0_0 a0_1 a0_2 l0_3))))))) = some r := h
  clear h
  have HC2 := Aside0.mk H
  clear H
  go_enter Try.func39, Try.ntmps39
  go_upto_region 1 with (first | ((with_reducible refine gate_dst (N := 1) rfl ?_); (try (refine gate_guard (by rfl) ?_; dsimp only)); refine box_event ?hg (N := 1) ?hd (cs := #[.int .i64 a0_0, .int .i64 a0_1, .int .i64 a0_2, .slice A0_3 l0_3.length c0_3]) (t := 69) ?hr ?_; (case hd => rfl); (case hg => rfl); (case hr => first | (go_simp; done) | (go_simp; rfl)); intro gb150 hg w3 hbox hb; have BK150 := am (hbox); have GW150 := am ((by rw [hg]; exact (below_size (hq HB.out)) : w.heap.size ≤ gb150)); have GE150 := GW150; replace HB := am (below_step (hq HB.out) hb); clear hb hbox hg))
  (try simp only [Act.put, sA, sB, sC])
  go_cut [42] (fun v42 wc => ∃ (kq : Nat) (x42_1 : Bool), v42 = .bool x42_1 ∧ Aside0 (spec_TableOK.j0 kq x42_1 a0_0 a0_1 a0_2 l0_3 = some r) ∧ Aside0 (kq ≤ k) ∧ Aside0 (wc.heap[gb150]? = some (.cells #[.int .i64 a0_0, .int .i64 a0_1, .int .i64 a0_2, (.slice A0_3 l0_3.length c0_3)] 69 (0, 0))) ∧ Aside0 (Below w.heap.size w wc))
  case first =>
    have H := HC2.out
    clear HC2
    by_cases c4 : a0_0 < 0
    · rw [if_pos c4] at H
      have c4b0 : decide (a0_0 < 0) = true := decide_eq_true c4
      clear c4
      (first | rw [c4b0] | (simp only [i64_w, i32_w]; rw [c4b0]) | skip)
      have H' := Aside0.mk H
      clear H
      have hcz5_0 : w3.cell? ⟨gb150, 0, none⟩ = some (.int .i64 a0_0) := bc BK150 0
      have hcz5_1 : w3.cell? ⟨gb150, 1, none⟩ = some (.int .i64 a0_1) := bc BK150 1
      have hcz5_2 : w3.cell? ⟨gb150, 2, none⟩ = some (.int .i64 a0_2) := bc BK150 2
      have hcz5_3 : w3.cell? ⟨gb150, 3, none⟩ = some (.slice A0_3 l0_3.length c0_3) := bc BK150 3
      have hfz5_0 := blk_frozen BK150.out 0
      have hfz5_1 := blk_frozen BK150.out 1
      have hfz5_2 := blk_frozen BK150.out 2
      have hfz5_3 := blk_frozen BK150.out 3
      go_wp2
      go_meet
      case rel => exact ⟨_, (true), (by first | rfl | (simp; done) | (simp [*]; done)), H', ⟨by first | omega | exact Nat.le_refl _⟩, ⟨by (with_reducible repeat (first | refine blk_drewN ?_ _ | refine blk_drew ?_ | refine blk_alloc ?_ _)); exact BK150.out⟩, ⟨by repeat (with_reducible first | exact hq HB.out | refine bs ?_ GE150.out | refine us ?_)⟩⟩
    · rw [if_neg c4] at H
      have c4b0 : decide (a0_0 < 0) = false := decide_eq_false c4
      clear c4
      (first | rw [c4b0] | (simp only [i64_w, i32_w]; rw [c4b0]) | skip)
      by_cases c6 : a0_0 > 4096
      · rw [if_pos c6] at H
        have c6b0 : decide (4096 < a0_0) = true := decide_eq_true c6
        clear c6
        have H' := Aside0.mk H
        clear H
        have hcz7_0 : w3.cell? ⟨gb150, 0, none⟩ = some (.int .i64 a0_0) := bc BK150 0
        have hcz7_1 : w3.cell? ⟨gb150, 1, none⟩ = some (.int .i64 a0_1) := bc BK150 1
        have hcz7_2 : w3.cell? ⟨gb150, 2, none⟩ = some (.int .i64 a0_2) := bc BK150 2
        have hcz7_3 : w3.cell? ⟨gb150, 3, none⟩ = some (.slice A0_3 l0_3.length c0_3) := bc BK150 3
        have hfz7_0 := blk_frozen BK150.out 0
        have hfz7_1 := blk_frozen BK150.out 1
        have hfz7_2 := blk_frozen BK150.out 2
        have hfz7_3 := blk_frozen BK150.out 3
        go_wp2
        go_meet
        case rel => exact ⟨_, (true), (by first | rfl | (simp; done) | (simp [*]; done)), H', ⟨by first | omega | exact Nat.le_refl _⟩, ⟨by (with_reducible repeat (first | refine blk_drewN ?_ _ | refine blk_drew ?_ | refine blk_alloc ?_ _)); exact BK150.out⟩, ⟨by repeat (with_reducible first | exact hq HB.out | refine bs ?_ GE150.out | refine us ?_)⟩⟩
      · rw [if_neg c6] at H
        have c6b0 : decide (4096 < a0_0) = false := decide_eq_false c6
        clear c6
        by_cases c8 : a0_1 < 0
        · rw [if_pos c8] at H
          have c8b0 : decide (a0_1 < 0) = true := decide_eq_true c8
          clear c8
          have H' := Aside0.mk H
          clear H
          have hcz9_0 : w3.cell? ⟨gb150, 0, none⟩ = some (.int .i64 a0_0) := bc BK150 0
          have hcz9_1 : w3.cell? ⟨gb150, 1, none⟩ = some (.int .i64 a0_1) := bc BK150 1
          have hcz9_2 : w3.cell? ⟨gb150, 2, none⟩ = some (.int .i64 a0_2) := bc BK150 2
          have hcz9_3 : w3.cell? ⟨gb150, 3, none⟩ = some (.slice A0_3 l0_3.length c0_3) := bc BK150 3
          have hfz9_0 := blk_frozen BK150.out 0
          have hfz9_1 := blk_frozen BK150.out 1
          have hfz9_2 := blk_frozen BK150.out 2
          have hfz9_3 := blk_frozen BK150.out 3
          go_wp2
          go_meet
          case rel => exact ⟨_, (true), (by first | rfl | (simp; done) | (simp [*]; done)), H', ⟨by first | omega | exact Nat.le_refl _⟩, ⟨by (with_reducible repeat (first | refine blk_drewN ?_ _ | refine blk_drew ?_ | refine blk_alloc ?_ _)); exact BK150.out⟩, ⟨by repeat (with_reducible first | exact hq HB.out | refine bs ?_ GE150.out | refine us ?_)⟩⟩
        · rw [if_neg c8] at H
          have c8b0 : decide (a0_1 < 0) = false := decide_eq_false c8
          clear c8
          by_cases c10 : a0_1 > a0_0
          · rw [if_pos c10] at H
            have c10b0 : decide (a0_0 < a0_1) = true := decide_eq_true c10
            clear c10
            have H' := Aside0.mk H
            clear H
            have hcz11_0 : w3.cell? ⟨gb150, 0, none⟩ = some (.int .i64 a0_0) := bc BK150 0
            have hcz11_1 : w3.cell? ⟨gb150, 1, none⟩ = some (.int .i64 a0_1) := bc BK150 1
            have hcz11_2 : w3.cell? ⟨gb150, 2, none⟩ = some (.int .i64 a0_2) := bc BK150 2
            have hcz11_3 : w3.cell? ⟨gb150, 3, none⟩ = some (.slice A0_3 l0_3.length c0_3) := bc BK150 3
            have hfz11_0 := blk_frozen BK150.out 0
            have hfz11_1 := blk_frozen BK150.out 1
            have hfz11_2 := blk_frozen BK150.out 2
            have hfz11_3 := blk_frozen BK150.out 3
            go_wp2
            go_meet
            case rel => exact ⟨_, (true), (by first | rfl | (simp; done) | (simp [*]; done)), H', ⟨by first | omega | exact Nat.le_refl _⟩, ⟨by (with_reducible repeat (first | refine blk_drewN ?_ _ | refine blk_drew ?_ | refine blk_alloc ?_ _)); exact BK150.out⟩, ⟨by repeat (with_reducible first | exact hq HB.out | refine bs ?_ GE150.out | refine us ?_)⟩⟩
          · rw [if_neg c10] at H
            have c10b0 : decide (a0_0 < a0_1) = false := decide_eq_false c10
            clear c10
            by_cases c12 : a0_2 < (l0_3.length : Int)
            · rw [if_pos c12] at H
              have c12b0 : decide (a0_2 < (l0_3.length : Int)) = true := decide_eq_true c12
              clear c12
              have H' := Aside0.mk H
              clear H
              have hcz13_0 : w3.cell? ⟨gb150, 0, none⟩ = some (.int .i64 a0_0) := bc BK150 0
              have hcz13_1 : w3.cell? ⟨gb150, 1, none⟩ = some (.int .i64 a0_1) := bc BK150 1
              have hcz13_2 : w3.cell? ⟨gb150, 2, none⟩ = some (.int .i64 a0_2) := bc BK150 2
              have hcz13_3 : w3.cell? ⟨gb150, 3, none⟩ = some (.slice A0_3 l0_3.length c0_3) := bc BK150 3
              have hfz13_0 := blk_frozen BK150.out 0
              have hfz13_1 := blk_frozen BK150.out 1
              have hfz13_2 := blk_frozen BK150.out 2
              have hfz13_3 := blk_frozen BK150.out 3
              go_wp2
              go_meet
              case rel => exact ⟨_, (true), (by first | rfl | (simp; done) | (simp [*]; done)), H', ⟨by first | omega | exact Nat.le_refl _⟩, ⟨by (with_reducible repeat (first | refine blk_drewN ?_ _ | refine blk_drew ?_ | refine blk_alloc ?_ _)); exact BK150.out⟩, ⟨by repeat (with_reducible first | exact hq HB.out | refine bs ?_ GE150.out | refine us ?_)⟩⟩
            · rw [if_neg c12] at H
              have c12b0 : decide (a0_2 < (l0_3.length : Int)) = false := decide_eq_false c12
              clear c12
              by_cases c14 : a0_2 > 4611686018427387902
              · rw [if_pos c14] at H
                have c14b0 : decide (4611686018427387902 < a0_2) = true := decide_eq_true c14
                clear c14
                have H' := Aside0.mk H
                clear H
                have hcz15_0 : w3.cell? ⟨gb150, 0, none⟩ = some (.int .i64 a0_0) := bc BK150 0
                have hcz15_1 : w3.cell? ⟨gb150, 1, none⟩ = some (.int .i64 a0_1) := bc BK150 1
                have hcz15_2 : w3.cell? ⟨gb150, 2, none⟩ = some (.int .i64 a0_2) := bc BK150 2
                have hcz15_3 : w3.cell? ⟨gb150, 3, none⟩ = some (.slice A0_3 l0_3.length c0_3) := bc BK150 3
                have hfz15_0 := blk_frozen BK150.out 0
                have hfz15_1 := blk_frozen BK150.out 1
                have hfz15_2 := blk_frozen BK150.out 2
                have hfz15_3 := blk_frozen BK150.out 3
                go_wp2
                go_meet
                case rel => exact ⟨_, (true), (by first | rfl | (simp; done) | (simp [*]; done)), H', ⟨by first | omega | exact Nat.le_refl _⟩, ⟨by (with_reducible repeat (first | refine blk_drewN ?_ _ | refine blk_drew ?_ | refine blk_alloc ?_ _)); exact BK150.out⟩, ⟨by repeat (with_reducible first | exact hq HB.out | refine bs ?_ GE150.out | refine us ?_)⟩⟩
              · rw [if_neg c14] at H
                have c14b0 : decide (4611686018427387902 < a0_2) = false := decide_eq_false c14
                clear c14
                have H' := Aside0.mk H
                clear H
                have hcz16_0 : w3.cell? ⟨gb150, 0, none⟩ = some (.int .i64 a0_0) := bc BK150 0
                have hcz16_1 : w3.cell? ⟨gb150, 1, none⟩ = some (.int .i64 a0_1) := bc BK150 1
                have hcz16_2 : w3.cell? ⟨gb150, 2, none⟩ = some (.int .i64 a0_2) := bc BK150 2
                have hcz16_3 : w3.cell? ⟨gb150, 3, none⟩ = some (.slice A0_3 l0_3.length c0_3) := bc BK150 3
                have hfz16_0 := blk_frozen BK150.out 0
                have hfz16_1 := blk_frozen BK150.out 1
                have hfz16_2 := blk_frozen BK150.out 2
                have hfz16_3 := blk_frozen BK150.out 3
                go_wp2
                go_meet
                case rel => exact ⟨_, (decide ((l0_3.length : Int) > 4096)), (by first | rfl | (simp; done) | (simp [*]; done)), H', ⟨by first | omega | exact Nat.le_refl _⟩, ⟨by (with_reducible repeat (first | refine blk_drewN ?_ _ | refine blk_drew ?_ | refine blk_alloc ?_ _)); exact BK150.out⟩, ⟨by repeat (with_reducible first | exact hq HB.out | refine bs ?_ GE150.out | refine us ?_)⟩⟩
  case rest =>
    clear HC2
    try clear c1
    try clear p2
    try clear c3
    try clear c4
    try clear c4b0
    try clear c6
    try clear c6b0
    try clear c8
    try clear c8b0
    try clear c10
    try clear c10b0
    try clear c12
    try clear c12b0
    try clear c14
    try clear c14b0
    try clear hcz11_0
    try clear hcz11_1
    try clear hcz11_2
    try clear hcz11_3
    try clear hcz13_0
    try clear hcz13_1
    try clear hcz13_2
    try clear hcz13_3
    try clear hcz15_0
    try clear hcz15_1
    try clear hcz15_2
    try clear hcz15_3
    try clear hcz16_0
    try clear hcz16_1
    try clear hcz16_2
    try clear hcz16_3
    try clear hcz5_0
    try clear hcz5_1
    try clear hcz5_2
    try clear hcz5_3
    try clear hcz7_0
    try clear hcz7_1
    try clear hcz7_2
    try clear hcz7_3
    try clear hcz9_0
    try clear hcz9_1
    try clear hcz9_2
    try clear hcz9_3
    try clear hfz11_0
    try clear hfz11_1
    try clear hfz11_2
    try clear hfz11_3
    try clear hfz13_0
    try clear hfz13_1
    try clear hfz13_2
    try clear hfz13_3
    try clear hfz15_0
    try clear hfz15_1
    try clear hfz15_2
    try clear hfz15_3
    try clear hfz16_0
    try clear hfz16_1
    try clear hfz16_2
    try clear hfz16_3
    try clear hfz5_0
    try clear hfz5_1
    try clear hfz5_2
    try clear hfz5_3
    try clear hfz7_0
    try clear hfz7_1
    try clear hfz7_2
    try clear hfz7_3
    try clear hfz9_0
    try clear hfz9_1
    try clear hfz9_2
    try clear hfz9_3
    obtain ⟨kq, x42_1, rfl, HA, HJ1, BK150, HB⟩ := hcut
    cases kq with
    | zero => exact absurd HA.out (by simp [spec_TableOK.j0])
    | succ kj1 =>
      have H := HA.out
      clear HA
      simp only [spec_TableOK.j0] at H
      by_cases c17 : x42_1 = true
      · subst c17
        have H1 : (some false) = some r := by rw [if_pos rfl] at H; exact H
        clear H
        have H := H1
        clear H1
        obtain rfl := Option.some.inj H
        go_wp2
        go_ret
        exact ⟨by first | rfl | (simp [errW_none, errW_some] <;> rfl) | (simp [*, errW_none, errW_some] <;> rfl), by repeat (with_reducible first | exact hq HB.out | refine bs ?_ GE150.out | refine us ?_)⟩
      · replace c17 := Bool.eq_false_iff.mpr c17
        subst c17
        have H1 : (spec_TableOK.l0 kj1 0 a0_0 a0_1 a0_2 l0_3) = some r := by rw [if_neg (show ¬ (false = true) by decide)] at H; exact H
        clear H
        have H := H1
        clear H1
        have H' := Aside0.mk H
        clear H
        go_wp2
        go_loopg [3] kj1 (fun kq v3 w' => ∃ (x3_2 : Int), v3 = .int .i64 x3_2 ∧ Aside0 (spec_TableOK.l0 kq x3_2 a0_0 a0_1 a0_2 l0_3 = some r) ∧ Aside0 (kq ≤ kj1) ∧ Aside0 (w'.heap[gb150]? = some (.cells #[.int .i64 a0_0, .int .i64 a0_1, .int .i64 a0_2, (.slice A0_3 l0_3.length c0_3)] 69 (0, 0))) ∧ Aside0 (Below w.heap.size w w'))
        case atStart => exact ⟨(0), (by first | rfl | (simp; done) | (simp [*]; done)), H', ⟨Nat.le_refl _⟩, ⟨by (with_reducible repeat (first | refine blk_drewN ?_ _ | refine blk_drew ?_ | refine blk_alloc ?_ _)); exact BK150.out⟩, ⟨by repeat (with_reducible first | exact hq HB.out | refine bs ?_ GE150.out | refine us ?_)⟩⟩
        case round =>
          clear H'
          try clear c1
          try clear p2
          try clear c3
          try clear c4
          try clear c4b0
          try clear c6
          try clear c6b0
          try clear c8
          try clear c8b0
          try clear c10
          try clear c10b0
          try clear c12
          try clear c12b0
          try clear c14
          try clear c14b0
          try clear c17
          try clear hcz11_0
          try clear hcz11_1
          try clear hcz11_2
          try clear hcz11_3
          try clear hcz13_0
          try clear hcz13_1
          try clear hcz13_2
          try clear hcz13_3
          try clear hcz15_0
          try clear hcz15_1
          try clear hcz15_2
          try clear hcz15_3
          try clear hcz16_0
          try clear hcz16_1
          try clear hcz16_2
          try clear hcz16_3
          try clear hcz5_0
          try clear hcz5_1
          try clear hcz5_2
          try clear hcz5_3
          try clear hcz7_0
          try clear hcz7_1
          try clear hcz7_2
          try clear hcz7_3
          try clear hcz9_0
          try clear hcz9_1
          try clear hcz9_2
          try clear hcz9_3
          try clear hfz11_0
          try clear hfz11_1
          try clear hfz11_2
          try clear hfz11_3
          try clear hfz13_0
          try clear hfz13_1
          try clear hfz13_2
          try clear hfz13_3
          try clear hfz15_0
          try clear hfz15_1
          try clear hfz15_2
          try clear hfz15_3
          try clear hfz16_0
          try clear hfz16_1
          try clear hfz16_2
          try clear hfz16_3
          try clear hfz5_0
          try clear hfz5_1
          try clear hfz5_2
          try clear hfz5_3
          try clear hfz7_0
          try clear hfz7_1
          try clear hfz7_2
          try clear hfz7_3
          try clear hfz9_0
          try clear hfz9_1
          try clear hfz9_2
          try clear hfz9_3
          try clear p2
          obtain ⟨x3_2, rfl, HA, HK2, BK150, HB⟩ := hrel
          cases gk with
          | zero => exact absurd HA.out (by simp [spec_TableOK.l0])
          | succ k2 =>
            have H := HA.out
            clear HA
            simp only [spec_TableOK.l0] at H
            by_cases c18 : x3_2 < (l0_3.length : Int)
            · rw [if_pos c18] at H
              have c18b0 : decide (x3_2 < (l0_3.length : Int)) = true := decide_eq_true c18
              clear c18
              by_cases c19 : 0 ≤ x3_2
              · rw [if_pos c19] at H
                have c19b0 : decide (0 ≤ x3_2) = true := decide_eq_true c19
                clear c19
                replace H := Option.bind_eq_some_iff.mp H
                obtain ⟨t152, A200, H⟩ := H
                replace H : (if t152 = true then (spec_TableOK.l0 k2 (wrap64 (x3_2 + 1)) a0_0 a0_1 a0_2 l0_3) else (some false)) = some r := H
                have A20 := Aside0.mk A200
                clear A200
                by_cases c21 : t152 = true
                · subst c21
                  have H1 : (spec_TableOK.l0 k2 (wrap64 (x3_2 + 1)) a0_0 a0_1 a0_2 l0_3) = some r := by rw [if_pos rfl] at H; exact H
                  clear H
                  have H := H1
                  clear H1
                  have H' := Aside0.mk H
                  clear H
                  have hcz22_0 : wr.cell? ⟨gb150, 0, none⟩ = some (.int .i64 a0_0) := bc BK150 0
                  have hcz22_1 : wr.cell? ⟨gb150, 1, none⟩ = some (.int .i64 a0_1) := bc BK150 1
                  have hcz22_2 : wr.cell? ⟨gb150, 2, none⟩ = some (.int .i64 a0_2) := bc BK150 2
                  have hcz22_3 : wr.cell? ⟨gb150, 3, none⟩ = some (.slice A0_3 l0_3.length c0_3) := bc BK150 3
                  have hfz22_0 := blk_frozen BK150.out 0
                  have hfz22_1 := blk_frozen BK150.out 1
                  have hfz22_2 := blk_frozen BK150.out 2
                  have hfz22_3 := blk_frozen BK150.out 3
                  have p151 : 0 ≤ (x3_2 : Int) := of_decide_eq_true (by first | (with_reducible assumption) | assumption)
                  have q151 : x3_2 < (l0_3.length : Int) := of_decide_eq_true (by first | (with_reducible assumption) | assumption)
                  obtain ⟨ad151, e151, hx151_0, hx151_1⟩ := at_T23 HR0_3.out x3_2 p151 q151
                  cases e151
                  replace hx151_0 := (HB.out.cell (World.block_lt_of_cell? w _ hx151_0)).trans hx151_0
                  replace hx151_1 := (HB.out.cell (World.block_lt_of_cell? w _ hx151_1)).trans hx151_1
                  replace p151 := eq_true p151
                  replace q151 := eq_true q151
                  go_wp2_with (first | ((with_reducible refine gate_callee (f := 100) rfl ?_); refine goesL_ (some 55) rfl rfl Try.func100 (by kernel_rfl) rfl #[.agg #[.string ((rd_T23 l0_3 x3_2).f0), .string ((rd_T23 l0_3 x3_2).f1)]] rfl (by (try simp only [List.map_toArray, List.map_cons, List.map_nil]); first | done | rfl | (simp only [List.length_drop, List.length_take]; rfl)) ?_; (with_reducible refine (spec_l14FieldOK.calls k2 ((rd_T23 l0_3 x3_2).f0) ((rd_T23 l0_3 x3_2).f1) true _ A20.out).mono ?_); rintro e w23 ⟨rfl, hb⟩; refine ⟨_, rfl, ?_⟩; replace BK150 := am (blk_below (bq BK150.out) hb); replace HB := am (below_step (by repeat (with_reducible first | exact hq HB.out | refine bs ?_ GE150.out | refine us ?_)) hb); (try clear hb); (try clear hb2); (try clear hk); (try clear hi)))
                  go_roundg k2
                  case measure => have := HJ1.out; have := HK2.out; omega
                  case rel => exact ⟨(wrap64 (x3_2 + 1)), (by first | rfl | (simp; done) | (simp [*]; done)), H', ⟨by have := HJ1.out; have := HK2.out; omega⟩, ⟨by (with_reducible repeat (first | refine blk_drewN ?_ _ | refine blk_drew ?_ | refine blk_alloc ?_ _)); exact BK150.out⟩, ⟨by repeat (with_reducible first | exact hq HB.out | refine bs ?_ GE150.out | refine us ?_)⟩⟩
                · replace c21 := Bool.eq_false_iff.mpr c21
                  subst c21
                  have H1 : (some false) = some r := by rw [if_neg (show ¬ (false = true) by decide)] at H; exact H
                  clear H
                  have H := H1
                  clear H1
                  obtain rfl := Option.some.inj H
                  have hcz24_0 : wr.cell? ⟨gb150, 0, none⟩ = some (.int .i64 a0_0) := bc BK150 0
                  have hcz24_1 : wr.cell? ⟨gb150, 1, none⟩ = some (.int .i64 a0_1) := bc BK150 1
                  have hcz24_2 : wr.cell? ⟨gb150, 2, none⟩ = some (.int .i64 a0_2) := bc BK150 2
                  have hcz24_3 : wr.cell? ⟨gb150, 3, none⟩ = some (.slice A0_3 l0_3.length c0_3) := bc BK150 3
                  have hfz24_0 := blk_frozen BK150.out 0
                  have hfz24_1 := blk_frozen BK150.out 1
                  have hfz24_2 := blk_frozen BK150.out 2
                  have hfz24_3 := blk_frozen BK150.out 3
                  have p151 : 0 ≤ (x3_2 : Int) := of_decide_eq_true (by first | (with_reducible assumption) | assumption)
                  have q151 : x3_2 < (l0_3.length : Int) := of_decide_eq_true (by first | (with_reducible assumption) | assumption)
                  obtain ⟨ad151, e151, hx151_0, hx151_1⟩ := at_T23 HR0_3.out x3_2 p151 q151
                  cases e151
                  replace hx151_0 := (HB.out.cell (World.block_lt_of_cell? w _ hx151_0)).trans hx151_0
                  replace hx151_1 := (HB.out.cell (World.block_lt_of_cell? w _ hx151_1)).trans hx151_1
                  replace p151 := eq_true p151
                  replace q151 := eq_true q151
                  go_wp2_with (first | ((with_reducible refine gate_callee (f := 100) rfl ?_); refine goesL_ (some 55) rfl rfl Try.func100 (by kernel_rfl) rfl #[.agg #[.string ((rd_T23 l0_3 x3_2).f0), .string ((rd_T23 l0_3 x3_2).f1)]] rfl (by (try simp only [List.map_toArray, List.map_cons, List.map_nil]); first | done | rfl | (simp only [List.length_drop, List.length_take]; rfl)) ?_; (with_reducible refine (spec_l14FieldOK.calls k2 ((rd_T23 l0_3 x3_2).f0) ((rd_T23 l0_3 x3_2).f1) false _ A20.out).mono ?_); rintro e w25 ⟨rfl, hb⟩; refine ⟨_, rfl, ?_⟩; replace BK150 := am (blk_below (bq BK150.out) hb); replace HB := am (below_step (by repeat (with_reducible first | exact hq HB.out | refine bs ?_ GE150.out | refine us ?_)) hb); (try clear hb); (try clear hb2); (try clear hk); (try clear hi)))
                  go_ret
                  exact ⟨by first | rfl | (simp [errW_none, errW_some] <;> rfl) | (simp [*, errW_none, errW_some] <;> rfl), by repeat (with_reducible first | exact hq HB.out | refine bs ?_ GE150.out | refine us ?_)⟩
              · rw [if_neg c19] at H
                exact absurd H (by simp)
            · rw [if_neg c18] at H
              have c18b0 : decide (x3_2 < (l0_3.length : Int)) = false := decide_eq_false c18
              clear c18
              replace H := Option.bind_eq_some_iff.mp H
              obtain ⟨t153, A260, H⟩ := H
              replace H : (some (decide (t153 ≤ a0_1))) = some r := H
              have A26 := Aside0.mk A260
              clear A260
              obtain rfl := Option.some.inj H
              have hcz27_0 : wr.cell? ⟨gb150, 0, none⟩ = some (.int .i64 a0_0) := bc BK150 0
              have hcz27_1 : wr.cell? ⟨gb150, 1, none⟩ = some (.int .i64 a0_1) := bc BK150 1
              have hcz27_2 : wr.cell? ⟨gb150, 2, none⟩ = some (.int .i64 a0_2) := bc BK150 2
              have hcz27_3 : wr.cell? ⟨gb150, 3, none⟩ = some (.slice A0_3 l0_3.length c0_3) := bc BK150 3
              have hfz27_0 := blk_frozen BK150.out 0
              have hfz27_1 := blk_frozen BK150.out 1
              have hfz27_2 := blk_frozen BK150.out 2
              have hfz27_3 := blk_frozen BK150.out 3
              try go_wp2
              have n0_ := am (blk_drew BK150.out)
              have n1_ := am (below_drew1 HB.out)
              clear BK150
              clear HB
              have BK150 := n0_
              have HB := n1_
              clear n0_ n1_
              refine start_ (n := 7) (S := fun w' => w'.cell? ⟨gb150, 0, none⟩ = some (.int .i64 a0_0) ∧ w'.cell? ⟨gb150, 1, none⟩ = some (.int .i64 a0_1) ∧ w'.cell? ⟨gb150, 2, none⟩ = some (.int .i64 a0_2) ∧ w'.cell? ⟨gb150, 3, none⟩ = some (.slice A0_3 l0_3.length c0_3)) (ds := []) #[false, false, false, false, false, false, false] (by kernel_rfl) rfl rfl ⟨bc BK150 0, bc BK150 1, bc BK150 2, bc BK150 3⟩ (fun hHeld => ?_)
              generalize wr.drew = w28 at BK150 HB hHeld ⊢
              refine pure_ (i := 0) (N := some 57) (v := ?_) (a' := ?_) #[true, false, false, false, false, false, false] rfl rfl (by kernel_rfl) (fun _ _ _ h => h) (Or.inl ⟨by rfl, ?_⟩) ?_ ?_
              rotate_left
              · intro w'
                go_simp
                with_reducible rfl
              rotate_left
              · simp only [Act.put, sA, sB, sC, i64_w, i32_w]
                rfl
              refine pure_ (i := 3) (N := some 60) (v := ?_) (a' := ?_) #[true, false, false, true, false, false, false] rfl rfl (by kernel_rfl) (fun _ _ _ h => h) (Or.inl ⟨by rfl, ?_⟩) ?_ ?_
              rotate_left
              · intro w'
                go_simp
                with_reducible rfl
              rotate_left
              · simp only [Act.put, sA, sB, sC, i64_w, i32_w]
                rfl
              refine take_ (i := 1) (N := some 58) (v := ?_) (a' := ?_) #[true, true, false, true, false, false, false] rfl rfl (by kernel_rfl) (fun _ _ _ h => h) (Or.inl ⟨by rfl, ?_⟩) hHeld ?_ ?_
              rotate_left
              · rintro w' ⟨s0, s1, s2, s3⟩
                go_simp
                with_reducible rfl
              rotate_left
              · simp only [Act.put, sA, sB, sC, i64_w, i32_w]
                rfl
              refine take_ (i := 4) (N := some 61) (v := ?_) (a' := ?_) #[true, true, false, true, true, false, false] rfl rfl (by kernel_rfl) (fun _ _ _ h => h) (Or.inl ⟨by rfl, ?_⟩) hHeld ?_ ?_
              rotate_left
              · rintro w' ⟨s0, s1, s2, s3⟩
                go_simp
                with_reducible rfl
              rotate_left
              · simp only [Act.put, sA, sB, sC, i64_w, i32_w]
                rfl
              refine one_ (i := 2) (N := some 59) #[true, true, true, true, true, false, false] rfl rfl (by kernel_rfl) (by decide) (fun K hK => ?_)
              refine goes_ Try.func101 (by kernel_rfl) rfl #[.slice A0_3 l0_3.length c0_3] (by rfl) rfl rfl (by (try simp only [List.map_toArray, List.map_cons, List.map_nil]); first | done | rfl | (simp only [List.length_drop, List.length_take]; rfl)) ?_
              with_reducible refine (spec_l14Costs.calls k2 _ _ l0_3 t153 _ ?side1 ?side2 A26.out).mono ?_
              (case side1 => repeat (first | exact (Kd.C_below HR0_3.out HB.out) | (with_reducible refine Kd.C_alloc ?_ _) | (with_reducible refine Kd.C_drewN ?_ _) | (with_reducible refine Kd.C_drew ?_)))
              (case side2 => exact HC0_3.out)
              rintro e w29 ⟨rfl, hb⟩
              refine ⟨_, rfl, ?_⟩
              have n0_ := am (blk_below (bq BK150.out) hb)
              have n1_ := am (below_step (by repeat (with_reducible first | exact hq HB.out | refine bs ?_ GE150.out | refine us ?_)) hb)
              clear BK150
              clear HB
              have BK150 := n0_
              have HB := n1_
              clear n0_ n1_
              (try clear hb)
              (try clear hb2)
              (try clear hk)
              (try clear hi)
              refine hK.out _ _ ⟨bc BK150 0, bc BK150 1, bc BK150 2, bc BK150 3⟩ (fun hHeld => ?_)
              clear hK K
              refine norm_ (a' := ?_) ?_ ?_
              rotate_left
              · show Act.put _ (some 59) _ = _
                simp only [Act.put, sA, sB, sC, i64_w, i32_w]
                rfl
              refine pure_ (i := 5) (N := some 62) (v := ?_) (a' := ?_) #[true, true, true, true, true, true, false] rfl rfl (by kernel_rfl) (fun _ _ _ h => h) (Or.inl ⟨by rfl, ?_⟩) ?_ ?_
              rotate_left
              · intro w'
                go_simp
                with_reducible rfl
              rotate_left
              · simp only [Act.put, sA, sB, sC, i64_w, i32_w]
                rfl
              refine pure_ (i := 6) (N := some 2) (v := ?_) (a' := ?_) #[true, true, true, true, true, true, true] rfl rfl (by kernel_rfl) (fun _ _ _ h => h) (Or.inl ⟨by rfl, ?_⟩) ?_ ?_
              rotate_left
              · intro w'
                go_simp
                with_reducible rfl
              rotate_left
              · simp only [Act.put, sA, sB, sC, i64_w, i32_w]
                rfl
              refine done_ (by kernel_rfl) ?_
              try go_wp2
              go_ret
              exact ⟨by first | rfl | (simp [errW_none, errW_some] <;> rfl) | (simp [*, errW_none, errW_some] <;> rfl), by repeat (with_reducible first | exact hq HB.out | refine bs ?_ GE150.out | refine us ?_)⟩

/-! ### spec_l14Fit: function 108 -/
def spec_l14Fit.l0 : Nat → Int → List (S23) → Option ((List (S23)))
  | 0, _, _ => none
  | k + 1, x1, x5 => if (x5.length : Int) > 0 then ((spec_l14Costs.f k x5).bind fun t160 => (if t160 > x1 then (if 1 ≤ (x5.length : Int) then (spec_l14Fit.l0 k x1 (x5.drop (1 : Int).toNat)) else (none)) else ((some (([] : List (S23)) : List (S23))).bind fun y164 => (if y164.length + x5.length < 4398046511104 then (some (y164 ++ x5)) else (none))))) else ((some (([] : List (S23)) : List (S23))).bind fun y170 => (if y170.length + x5.length < 4398046511104 then (some (y170 ++ x5)) else (none)))
def spec_l14Fit.f (k : Nat) (l0 : List (S23)) (a1 : Int) : Option ((List (S23))) := (some (([] : List (S23)) : List (S23))).bind fun y154 => (if y154.length + l0.length < 4398046511104 then (spec_l14Fit.l0 k a1 (y154 ++ l0)) else (none))
theorem spec_l14Fit.mono_l : ∀ k, (∀ y0 y1, LeO (spec_l14Fit.l0 k y0 y1) (spec_l14Fit.l0 (k + 1) y0 y1))
  | 0 => fun _ _ r h => by simp [spec_l14Fit.l0] at h
  | k + 1 => by
    have ih0 := spec_l14Fit.mono_l k
    · intro y0 y1
      unfold spec_l14Fit.l0
      repeat' first
      | (with_reducible exact ih0 _ _)
      | (with_reducible exact spec_l14Costs.mono _ _)
      | (with_reducible exact LeO.refl _)
      | (with_reducible exact LeO.none _)
      | (with_reducible refine LeO.ite ?_ ?_)
      | (with_reducible refine LeO.bind ?_ (fun _ => ?_))
      | exact ih0 _ _
      | exact spec_l14Costs.mono _ _
      | exact LeO.none _
      | refine LeO.ite ?_ ?_
      | refine LeO.bind ?_ (fun _ => ?_)
theorem spec_l14Fit.mono : ∀ a0 a1 k, LeO (spec_l14Fit.f k a0 a1) (spec_l14Fit.f (k + 1) a0 a1) := by
  intro a0 a1 k
  have ih0 := spec_l14Fit.mono_l k
  unfold spec_l14Fit.f
  repeat' first
      | (with_reducible exact ih0 _ _)
      | (with_reducible exact spec_l14Costs.mono _ _)
      | (with_reducible exact LeO.refl _)
      | (with_reducible exact LeO.none _)
      | (with_reducible refine LeO.ite ?_ ?_)
      | (with_reducible refine LeO.bind ?_ (fun _ => ?_))
      | exact ih0 _ _
      | exact spec_l14Costs.mono _ _
      | exact LeO.none _
      | refine LeO.ite ?_ ?_
      | refine LeO.bind ?_ (fun _ => ?_)
set_option maxHeartbeats 8000000 in
set_option maxRecDepth 100000 in
theorem spec_l14Fit.calls (k : Nat) (A0 : Option Addr) (c0 : Nat) (l0 : List (S23)) (a1 : Int) (r : List (S23)) (w : World) (hr0 : Kd.C k23 w A0 l0.length l0) (hc0 : l0.length ≤ c0) (h : spec_l14Fit.f k l0 a1 = some r) :
    Calls Try.prog 108 #[.slice A0 l0.length c0, .int .i64 a1] w fun e w' => ∃ v0_ : Value, e = .returned (v0_) ∧ Kd.R k23 23 w' w.heap.size (fun _ => True) v0_ r ∧ Below w.heap.size w w' := by
  have HR0 := Aside0.mk hr0
  have HC0 := Aside0.mk hc0
  clear hr0 hc0
  have HB := am (Below.refl w.heap.size w)
  have H : ((some (([] : List (S23)) : List (S23))).bind fun y154 => (if y154.length + l0.length < 4398046511104 then (spec_l14Fit.l0 k a1 (y154 ++ l0)) else (none))) = some r := h
  clear h
  obtain ⟨y154, hy154⟩ : ∃ y_ : List (S23), y_ = (([] : List (S23))) := ⟨_, rfl⟩
  replace H : (if y154.length + l0.length < 4398046511104 then (spec_l14Fit.l0 k a1 (y154 ++ l0)) else (none)) = some r := by first | (rw [hy154]; with_reducible exact H) | (have H2_ := (Option.bind_some _ _).symm.trans H; rw [hy154]; with_reducible exact H2_) | (have H2_ := (Option.bind_some _ _).symm.trans H; with_reducible exact H2_) | with_reducible exact H | (rw [hy154]; exact H) | exact H
  have Ny154 := Aside0.mk hy154
  clear hy154
  by_cases c3 : y154.length + l0.length < 4398046511104
  · rw [if_pos c3] at H
    have LMc3 := Aside0.mk c3
    clear c3
    obtain ⟨y157, hy157⟩ : ∃ y_ : List (S23), y_ = (y154 ++ l0) := ⟨_, rfl⟩
    replace H : (spec_l14Fit.l0 k a1 y157) = some r := by first | (rw [hy157]; with_reducible exact H) | (have H2_ := (Option.bind_some _ _).symm.trans H; rw [hy157]; with_reducible exact H2_) | (have H2_ := (Option.bind_some _ _).symm.trans H; with_reducible exact H2_) | with_reducible exact H | (rw [hy157]; exact H) | exact H
    have Ny157 := Aside0.mk hy157
    clear hy157
    have H' := Aside0.mk H
    clear H
    go_enter Try.func108, Try.ntmps108
    go_wp2_with (first | ((with_reducible refine gate_dst (N := 6) rfl ?_); refine Kd.R_lit k23 _ 23 ?hg (N := 6) ?hd (xs := ([] : List (S23))) (inner := []) (ok := fun _ => True) (okp := fun _ => True) ?hr ?hp (fun _ hk => hk) trivial (Below.refl _ _) (Nat.le_refl _) (by simp) ?_; (case hd => rfl); (case hg => rfl); (case hr => first | (go_simp; done) | (go_simp; rfl)); (case hp => exact (Reps.none _ _)); intro v155 w4 ho5 hb hg_ hnew_; clear hg_ hnew_; (first | rw [← Ny154.out] at ho5 | (simp only [Int.reduceToNat] at ho5; rw [← Ny154.out] at ho5)); have HO156 := am (Kd.R_lower ho5 (below_size (hq HB.out))); replace HB := am (below_step (hq HB.out) hb); clear hb ho5) | ((with_reducible refine gate_builtin (b := .append) (xs := #[.tmp 6, .tmp 7]) rfl ?_); at_builtin; refine Kd.R_append_rows k23 (w0 := w) w.heap.size rfl (.tmp 6) (.tmp 7) 67 23 (.agg #[(.string ⟨#[]⟩), (.string ⟨#[]⟩)]) 32 rfl Try.underlying67 info23 rfl (by decide) (by omega) v155 y154 l0 _ _ _ (fun _ => True) (fun _ => False) rfl rfl ?aO ?aR (fun _ _ h => h) (fun _ h => h.elim) ?aF ?aB ?aS ?aL ?_; (case aR => repeat (first | exact (Kd.C_below HR0.out HB.out) | (with_reducible refine Kd.C_alloc ?_ _) | (with_reducible refine Kd.C_drewN ?_ _) | (with_reducible refine Kd.C_drew ?_))); (case aB => exact (hq HB.out)); (case aF => exact (fun _ _ => trivial)); (case aO => exact (rq HO156.out)); (case aS => exact (below_size (hq HB.out))); (case aL => have := LMc3.out; omega); intro v158 w6 ho hb hg hat; rw [← Ny157.out] at ho; have n0_ := am (hb); have n1_ := am (ho); clear HB; clear HO156; have HB := n0_; have HO159 := n1_; clear n0_ n1_; clear ho hb hg hat))
    go_loopg [5] k (fun kq v5 w' => ∃ (x5_1 : List (S23)), Aside0 (spec_l14Fit.l0 kq a1 x5_1 = some r) ∧ Aside0 (kq ≤ k) ∧ Aside0 (Kd.Q k23 23 w' w.heap.size (fun _ => True) v5 x5_1) ∧ Aside0 (Below w.heap.size w w'))
    case atStart => exact ⟨(y157), H', ⟨Nat.le_refl _⟩, ⟨Kd.Q_of_R (rq HO159.out)⟩, ⟨by repeat (first | (with_reducible first | exact HB.out | apply below_alloc | apply pw_below_drewN | apply below_drew1) | exact HB.out)⟩⟩
    case round =>
      clear H'
      try clear c1
      try clear p2
      try clear c3
      obtain ⟨x5_1, HA, HK1, HO_5, HB⟩ := hrel
      cases gk with
      | zero => exact absurd HA.out (by simp [spec_l14Fit.l0])
      | succ k1 =>
        have H := HA.out
        clear HA
        simp only [spec_l14Fit.l0] at H
        by_cases c7 : (x5_1.length : Int) > 0
        · rw [if_pos c7] at H
          have c7b0 : decide (0 < (x5_1.length : Int)) = true := decide_eq_true c7
          have c7b1 : decide (0 < x5_1.length) = true := decide_eq_true (by omega)
          clear c7
          replace H := Option.bind_eq_some_iff.mp H
          obtain ⟨t160, A80, H⟩ := H
          replace H : (if t160 > a1 then (if 1 ≤ (x5_1.length : Int) then (spec_l14Fit.l0 k1 a1 (x5_1.drop (1 : Int).toNat)) else (none)) else ((some (([] : List (S23)) : List (S23))).bind fun y164 => (if y164.length + x5_1.length < 4398046511104 then (some (y164 ++ x5_1)) else (none)))) = some r := H
          have A8 := Aside0.mk A80
          clear A80
          by_cases c9 : t160 > a1
          · rw [if_pos c9] at H
            have c9b0 : decide (a1 < t160) = true := decide_eq_true c9
            clear c9
            by_cases c10 : 1 ≤ (x5_1.length : Int)
            · rw [if_pos c10] at H
              have c10b0 := eq_true c10
              have c10b1 : decide (1 ≤ (x5_1.length : Int)) = true := decide_eq_true c10
              clear c10
              obtain ⟨y161, hy161⟩ : ∃ y_ : List (S23), y_ = (x5_1.drop (1 : Int).toNat) := ⟨_, rfl⟩
              replace H : (spec_l14Fit.l0 k1 a1 y161) = some r := by first | (rw [hy161]; with_reducible exact H) | (have H2_ := (Option.bind_some _ _).symm.trans H; rw [hy161]; with_reducible exact H2_) | (have H2_ := (Option.bind_some _ _).symm.trans H; with_reducible exact H2_) | with_reducible exact H | (rw [hy161]; exact H) | exact H
              have Ny161 := Aside0.mk hy161
              clear hy161
              have H' := Aside0.mk H
              clear H
              obtain ⟨Ao11, co11, eo11, _⟩ := Kd.Q_slice HO_5.out
              subst eo11
              go_wp2_with (first | (go_at_call 101; (with_reducible refine (spec_l14Costs.calls k1 _ _ x5_1 t160 _ ?side1 ?side2 A8.out).mono ?_); (case side1 => repeat (first | exact (Kd.Q_reads' HO_5.out).2.2 | (with_reducible refine Kd.C_alloc ?_ _) | (with_reducible refine Kd.C_drewN ?_ _) | (with_reducible refine Kd.C_drew ?_))); (case side2 => exact (Kd.Q_reads' HO_5.out).2.1); rintro e w12 ⟨rfl, hb⟩; replace HO_5 := am (Kd.Q_below (by (with_reducible repeat (first | apply Kd.Q_alloc | apply Kd.Q_drewN | apply Kd.Q_drew)); exact HO_5.out) hb); replace HB := am (below_step (hq HB.out) hb); (try clear hb); (try clear hb2); (try clear hk); (try clear hi); have q13 : (1 : Int) ≤ ((x5_1.length : Int) : Int) := of_decide_eq_true (by first | (with_reducible assumption) | assumption); obtain ⟨i013, hi013, _, hsz13, _⟩ := info_parts info23; have hcut13 := cut_from (P := Try.prog) 67 23 .i64 Try.underlying67 hi013 2 hsz13 Ao11 x5_1.length co11 1 (by omega) q13; have hr13 := Kd.Q_drop (k := (1 : Int).toNat) HO_5.out (by omega); obtain ⟨A13, hA13⟩ : ∃ A1, A1 = (if co11 = (1 : Int).toNat then Ao11 else (Ao11 : Option Addr).map (·.add ((1 : Int).toNat * 2))) := ⟨_, rfl⟩; obtain ⟨c13, hc13⟩ : ∃ c1, c1 = co11 - (1 : Int).toNat := ⟨_, rfl⟩; have hy13 : y161.length = x5_1.length - (1 : Int).toNat := (by rw [Ny161.out, List.length_drop]); rw [← Ny161.out] at hr13; rw [← hy13, ← hA13, ← hc13] at hcut13; replace hr13 : Kd.Q k23 23 w12 w.heap.size (fun _ => True) (.slice A13 y161.length c13) y161 := (by rw [hA13, hc13, hy13]; exact hr13); have HE13 : Aside0 ((Value.slice A13 y161.length c13).ownBlock = (.slice Ao11 x5_1.length co11 : Value).ownBlock) := ⟨by rw [hA13]; split <;> (cases (Ao11 : Option Addr) <;> rfl)⟩; clear hy13 hi013 hsz13 HO_5 hA13 hc13; have HO163 := Aside0.mk hr13; clear hr13; replace q13 := eq_true q13))
              go_roundg k1
              case measure => have := HK1.out; omega
              case rel => exact ⟨(y161), H', ⟨by have := HK1.out; omega⟩, ⟨by (with_reducible repeat (first | apply Kd.Q_alloc | apply Kd.Q_drewN | apply Kd.Q_drew)); exact HO163.out⟩, ⟨by repeat (first | (with_reducible first | exact HB.out | apply below_alloc | apply pw_below_drewN | apply below_drew1) | exact HB.out)⟩⟩
            · rw [if_neg c10] at H
              exact absurd H (by simp)
          · rw [if_neg c9] at H
            have c9b0 : decide (a1 < t160) = false := decide_eq_false c9
            clear c9
            obtain ⟨y164, hy164⟩ : ∃ y_ : List (S23), y_ = (([] : List (S23))) := ⟨_, rfl⟩
            replace H : (if y164.length + x5_1.length < 4398046511104 then (some (y164 ++ x5_1)) else (none)) = some r := by first | (rw [hy164]; with_reducible exact H) | (have H2_ := (Option.bind_some _ _).symm.trans H; rw [hy164]; with_reducible exact H2_) | (have H2_ := (Option.bind_some _ _).symm.trans H; with_reducible exact H2_) | with_reducible exact H | (rw [hy164]; exact H) | exact H
            have Ny164 := Aside0.mk hy164
            clear hy164
            by_cases c14 : y164.length + x5_1.length < 4398046511104
            · rw [if_pos c14] at H
              have LMc14 := Aside0.mk c14
              clear c14
              obtain ⟨y167, hy167⟩ : ∃ y_ : List (S23), y_ = (y164 ++ x5_1) := ⟨_, rfl⟩
              replace H : (some y167) = some r := by first | (rw [hy167]; with_reducible exact H) | (have H2_ := (Option.bind_some _ _).symm.trans H; rw [hy167]; with_reducible exact H2_) | (have H2_ := (Option.bind_some _ _).symm.trans H; with_reducible exact H2_) | with_reducible exact H | (rw [hy167]; exact H) | exact H
              have Ny167 := Aside0.mk hy167
              clear hy167
              obtain rfl := Option.some.inj H
              obtain ⟨Ao15, co15, eo15, _⟩ := Kd.Q_slice HO_5.out
              subst eo15
              go_wp2_with (first | (go_at_call 101; (with_reducible refine (spec_l14Costs.calls k1 _ _ x5_1 t160 _ ?side1 ?side2 A8.out).mono ?_); (case side1 => repeat (first | exact (Kd.Q_reads' HO_5.out).2.2 | (with_reducible refine Kd.C_alloc ?_ _) | (with_reducible refine Kd.C_drewN ?_ _) | (with_reducible refine Kd.C_drew ?_))); (case side2 => exact (Kd.Q_reads' HO_5.out).2.1); rintro e w16 ⟨rfl, hb⟩; replace HO_5 := am (Kd.Q_below (by (with_reducible repeat (first | apply Kd.Q_alloc | apply Kd.Q_drewN | apply Kd.Q_drew)); exact HO_5.out) hb); replace HB := am (below_step (hq HB.out) hb); (try clear hb); (try clear hb2); (try clear hk); (try clear hi)) | ((with_reducible refine gate_dst (N := 20) rfl ?_); refine Kd.R_lit k23 _ 23 ?hg (N := 20) ?hd (xs := ([] : List (S23))) (inner := []) (ok := fun _ => True) (okp := fun _ => True) ?hr ?hp (fun _ hk => hk) trivial (Below.refl _ _) (Nat.le_refl _) (by simp) ?_; (case hd => rfl); (case hg => rfl); (case hr => first | (go_simp; done) | (go_simp; rfl)); (case hp => exact (Reps.none _ _)); intro v165 w17 ho18 hb hg_ hnew_; clear hg_ hnew_; (first | rw [← Ny164.out] at ho18 | (simp only [Int.reduceToNat] at ho18; rw [← Ny164.out] at ho18)); have HO166 := am (Kd.R_lower (Kd.R_new' ho18 (Kd.Q_lt (by (with_reducible repeat (first | apply Kd.Q_alloc | apply Kd.Q_drewN | apply Kd.Q_drew)); exact HO_5.out))) (below_size (hq HB.out))); replace HO_5 := am (Kd.Q_elder' (by (with_reducible repeat (first | apply Kd.Q_alloc | apply Kd.Q_drewN | apply Kd.Q_drew)); exact HO_5.out) (Kd.R_base ho18) hb); replace HB := am (below_step (hq HB.out) hb); clear hb ho18) | ((with_reducible refine gate_builtin (b := .append) (xs := #[.tmp 20, .tmp 21]) rfl ?_); at_builtin; refine Kd.R_append_rows k23 (w0 := w) w.heap.size rfl (.tmp 20) (.tmp 21) 67 23 (.agg #[(.string ⟨#[]⟩), (.string ⟨#[]⟩)]) 32 rfl Try.underlying67 info23 rfl (by decide) (by omega) v165 y164 x5_1 _ _ _ (fun k_ => some k_ ≠ (.slice Ao15 x5_1.length co15 : Value).ownBlock) (fun _ => False) rfl rfl ?aO ?aR (fun _ _ h => h) (fun _ h => h.elim) ?aF ?aB ?aS ?aL ?_; (case aR => repeat (first | exact (Kd.Q_reads' HO_5.out).2.2 | (with_reducible refine Kd.C_alloc ?_ _) | (with_reducible refine Kd.C_drewN ?_ _) | (with_reducible refine Kd.C_drew ?_))); (case aB => exact (hq HB.out)); (case aF => exact (fun k_ hk => Kd.fresh' (Kd.Q_lt (by (with_reducible repeat (first | apply Kd.Q_alloc | apply Kd.Q_drewN | apply Kd.Q_drew)); exact HO_5.out)) k_ hk)); (case aO => exact (rq (Kd.R_mono HO166.out (fun _ hk => hk.2)))); (case aS => exact (below_size (hq HB.out))); (case aL => have := LMc14.out; omega); intro v168 w19 ho hb hg hat; rw [← Ny167.out] at ho; have n0_ := am (Kd.Q_after (ok := (fun _ => True)) (by (with_reducible repeat (first | apply Kd.Q_alloc | apply Kd.Q_drewN | apply Kd.Q_drew)); exact HO_5.out) hg hat); have n1_ := am (hb); have n2_ := am (ho); clear HO_5; clear HB; clear HO166; have HO_5 := n0_; have HB := n1_; have HO169 := n2_; clear n0_ n1_ n2_; clear ho hb hg hat))
              go_ret
              exact ⟨_, by first | rfl | (simp [errW_none, errW_some] <;> rfl) | (simp [*, errW_none, errW_some] <;> rfl), by (with_reducible repeat (first | apply Kd.R_alloc | apply Kd.R_drewN | apply Kd.R_drew)); exact Kd.R_mono HO169.out (fun _ hk => trivial), by repeat (first | (with_reducible first | exact HB.out | apply below_alloc | apply pw_below_drewN | apply below_drew1) | exact HB.out)⟩
            · rw [if_neg c14] at H
              exact absurd H (by simp)
        · rw [if_neg c7] at H
          have c7b0 : decide (0 < (x5_1.length : Int)) = false := decide_eq_false c7
          have c7b1 : decide (0 < x5_1.length) = false := decide_eq_false (by omega)
          clear c7
          obtain ⟨y170, hy170⟩ : ∃ y_ : List (S23), y_ = (([] : List (S23))) := ⟨_, rfl⟩
          replace H : (if y170.length + x5_1.length < 4398046511104 then (some (y170 ++ x5_1)) else (none)) = some r := by first | (rw [hy170]; with_reducible exact H) | (have H2_ := (Option.bind_some _ _).symm.trans H; rw [hy170]; with_reducible exact H2_) | (have H2_ := (Option.bind_some _ _).symm.trans H; with_reducible exact H2_) | with_reducible exact H | (rw [hy170]; exact H) | exact H
          have Ny170 := Aside0.mk hy170
          clear hy170
          by_cases c20 : y170.length + x5_1.length < 4398046511104
          · rw [if_pos c20] at H
            have LMc20 := Aside0.mk c20
            clear c20
            obtain ⟨y173, hy173⟩ : ∃ y_ : List (S23), y_ = (y170 ++ x5_1) := ⟨_, rfl⟩
            replace H : (some y173) = some r := by first | (rw [hy173]; with_reducible exact H) | (have H2_ := (Option.bind_some _ _).symm.trans H; rw [hy173]; with_reducible exact H2_) | (have H2_ := (Option.bind_some _ _).symm.trans H; with_reducible exact H2_) | with_reducible exact H | (rw [hy173]; exact H) | exact H
            have Ny173 := Aside0.mk hy173
            clear hy173
            obtain rfl := Option.some.inj H
            obtain ⟨Ao21, co21, eo21, _⟩ := Kd.Q_slice HO_5.out
            subst eo21
            go_wp2_with (first | ((with_reducible refine gate_dst (N := 20) rfl ?_); refine Kd.R_lit k23 _ 23 ?hg (N := 20) ?hd (xs := ([] : List (S23))) (inner := []) (ok := fun _ => True) (okp := fun _ => True) ?hr ?hp (fun _ hk => hk) trivial (Below.refl _ _) (Nat.le_refl _) (by simp) ?_; (case hd => rfl); (case hg => rfl); (case hr => first | (go_simp; done) | (go_simp; rfl)); (case hp => exact (Reps.none _ _)); intro v171 w22 ho23 hb hg_ hnew_; clear hg_ hnew_; (first | rw [← Ny170.out] at ho23 | (simp only [Int.reduceToNat] at ho23; rw [← Ny170.out] at ho23)); have HO172 := am (Kd.R_lower (Kd.R_new' ho23 (Kd.Q_lt (by (with_reducible repeat (first | apply Kd.Q_alloc | apply Kd.Q_drewN | apply Kd.Q_drew)); exact HO_5.out))) (below_size (hq HB.out))); replace HO_5 := am (Kd.Q_elder' (by (with_reducible repeat (first | apply Kd.Q_alloc | apply Kd.Q_drewN | apply Kd.Q_drew)); exact HO_5.out) (Kd.R_base ho23) hb); replace HB := am (below_step (hq HB.out) hb); clear hb ho23) | ((with_reducible refine gate_builtin (b := .append) (xs := #[.tmp 20, .tmp 21]) rfl ?_); at_builtin; refine Kd.R_append_rows k23 (w0 := w) w.heap.size rfl (.tmp 20) (.tmp 21) 67 23 (.agg #[(.string ⟨#[]⟩), (.string ⟨#[]⟩)]) 32 rfl Try.underlying67 info23 rfl (by decide) (by omega) v171 y170 x5_1 _ _ _ (fun k_ => some k_ ≠ (.slice Ao21 x5_1.length co21 : Value).ownBlock) (fun _ => False) rfl rfl ?aO ?aR (fun _ _ h => h) (fun _ h => h.elim) ?aF ?aB ?aS ?aL ?_; (case aR => repeat (first | exact (Kd.Q_reads' HO_5.out).2.2 | (with_reducible refine Kd.C_alloc ?_ _) | (with_reducible refine Kd.C_drewN ?_ _) | (with_reducible refine Kd.C_drew ?_))); (case aB => exact (hq HB.out)); (case aF => exact (fun k_ hk => Kd.fresh' (Kd.Q_lt (by (with_reducible repeat (first | apply Kd.Q_alloc | apply Kd.Q_drewN | apply Kd.Q_drew)); exact HO_5.out)) k_ hk)); (case aO => exact (rq (Kd.R_mono HO172.out (fun _ hk => hk.2)))); (case aS => exact (below_size (hq HB.out))); (case aL => have := LMc20.out; omega); intro v174 w24 ho hb hg hat; rw [← Ny173.out] at ho; have n0_ := am (Kd.Q_after (ok := (fun _ => True)) (by (with_reducible repeat (first | apply Kd.Q_alloc | apply Kd.Q_drewN | apply Kd.Q_drew)); exact HO_5.out) hg hat); have n1_ := am (hb); have n2_ := am (ho); clear HO_5; clear HB; clear HO172; have HO_5 := n0_; have HB := n1_; have HO175 := n2_; clear n0_ n1_ n2_; clear ho hb hg hat))
            go_ret
            exact ⟨_, by first | rfl | (simp [errW_none, errW_some] <;> rfl) | (simp [*, errW_none, errW_some] <;> rfl), by (with_reducible repeat (first | apply Kd.R_alloc | apply Kd.R_drewN | apply Kd.R_drew)); exact Kd.R_mono HO175.out (fun _ hk => trivial), by repeat (first | (with_reducible first | exact HB.out | apply below_alloc | apply pw_below_drewN | apply below_drew1) | exact HB.out)⟩
          · rw [if_neg c20] at H
            exact absurd H (by simp)
  · rw [if_neg c3] at H
    exact absurd H (by simp)

end Go.Proofs.Ytjhcphcjpndciaa.PFnExactTableAdd
