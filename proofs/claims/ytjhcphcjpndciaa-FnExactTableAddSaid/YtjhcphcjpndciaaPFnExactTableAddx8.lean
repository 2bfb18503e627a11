-- Written by a program of this repo (xprint.py) out of the translation; Lean checks it. SHRUNK
import Derived.Test.YtjhcphcjpndciaaPFnExactTableAddx0
import Derived.Test.YtjhcphcjpndciaaPFnExactTableAddx7
namespace Go.Proofs.Ytjhcphcjpndciaa.PFnExactTableAdd
open Go.RowKit Go.Proofs.YtjhcphcjpndciaaW.PrintWords Go.Proofs.YtjhcphcjpndciaaW.PrintLast Go.Proofs.YtjhcphcjpndciaaW.PrintMore
attribute [local go_sem] max2_int min2_int max_two min_two max_three min_three max_four min_four   -- for this text's walks alone
set_option linter.unusedVariables false
set_option linter.unusedSimpArgs false

/-! ### impl_TableOK: function 41 -/
mutual
def impl_TableOK.j0 : Nat → Bool → Int → Int → Int → List (S23) → Option (Bool)
  | 0, _, _, _, _, _ => none
  | k + 1, x38, x197000, x197001, x197002, x197003 => if x38 = true then (some false) else (impl_TableOK.l0 k 0 x197003 (x197003.length : Int) 0 x197000 x197001 x197002 x197003)
def impl_TableOK.l0 : Nat → Int → List (S23) → Int → Int → Int → Int → Int → List (S23) → Option (Bool)
  | 0, _, _, _, _, _, _, _, _ => none
  | k + 1, x3, x40, x41, x42, x197000, x197001, x197002, x197003 => if x42 < x41 then (if 0 ≤ x42 then (if x42 < (x40.length : Int) then ((impl_costOf.f ((rd_T23 x40 x42).f0) ((rd_T23 x40 x42).f1)).bind fun t199 => (if (wrap64 (x3 + t199)) > x197001 then (some false) else ((impl_fieldOK.f k ((rd_T23 x40 x42).f0) ((rd_T23 x40 x42).f1)).bind fun t200 => (if t200 = true then (impl_TableOK.l0 k (wrap64 (x3 + t199)) x40 x41 (wrap64 (x42 + 1)) x197000 x197001 x197002 x197003) else (some false))))) else (none)) else (none)) else (some true)
end
def impl_TableOK.f (k : Nat) (a0_0 : Int) (a0_1 : Int) (a0_2 : Int) (l0_3 : List (S23)) : Option (Bool) := if a0_0 < 0 then (impl_TableOK.j0 k true a0_0 a0_1 a0_2 l0_3) else (if a0_0 > 4096 then (impl_TableOK.j0 k true a0_0 a0_1 a0_2 l0_3) else (if a0_1 < 0 then (impl_TableOK.j0 k true a0_0 a0_1 a0_2 l0_3) else (if a0_1 > a0_0 then (impl_TableOK.j0 k true a0_0 a0_1 a0_2 l0_3) else (if a0_2 < (l0_3.length : Int) then (impl_TableOK.j0 k true a0_0 a0_1 a0_2 l0_3) else (impl_TableOK.j0 k (decide (a0_2 > 4611686018427387902)) a0_0 a0_1 a0_2 l0_3)))))
theorem impl_TableOK.mono_l : ∀ k, (∀ y0 y1 y2 y3 y4, LeO (impl_TableOK.j0 k y0 y1 y2 y3 y4) (impl_TableOK.j0 (k + 1) y0 y1 y2 y3 y4)) ∧ (∀ y0 y1 y2 y3 y4 y5 y6 y7, LeO (impl_TableOK.l0 k y0 y1 y2 y3 y4 y5 y6 y7) (impl_TableOK.l0 (k + 1) y0 y1 y2 y3 y4 y5 y6 y7))
  | 0 => ⟨fun _ _ _ _ _ r h => by simp [impl_TableOK.j0] at h, fun _ _ _ _ _ _ _ _ r h => by simp [impl_TableOK.l0] at h⟩
  | k + 1 => by
    obtain ⟨ih0, ih1⟩ := impl_TableOK.mono_l k
    refine ⟨?_, ?_⟩
    · intro y0 y1 y2 y3 y4
      unfold impl_TableOK.j0
      repeat' first
      | (with_reducible exact ih0 _ _ _ _ _)
      | (with_reducible exact ih1 _ _ _ _ _ _ _ _)
      | (with_reducible exact impl_fieldOK.mono _ _ _)
      | (with_reducible exact LeO.refl _)
      | (with_reducible exact LeO.none _)
      | (with_reducible refine LeO.ite ?_ ?_)
      | (with_reducible refine LeO.bind ?_ (fun _ => ?_))
      | exact ih0 _ _ _ _ _
      | exact ih1 _ _ _ _ _ _ _ _
      | exact impl_fieldOK.mono _ _ _
      | exact LeO.none _
      | refine LeO.ite ?_ ?_
      | refine LeO.bind ?_ (fun _ => ?_)
    · intro y0 y1 y2 y3 y4 y5 y6 y7
      unfold impl_TableOK.l0
      repeat' first
      | (with_reducible exact ih0 _ _ _ _ _)
      | (with_reducible exact ih1 _ _ _ _ _ _ _ _)
      | (with_reducible exact impl_fieldOK.mono _ _ _)
      | (with_reducible exact LeO.refl _)
      | (with_reducible exact LeO.none _)
      | (with_reducible refine LeO.ite ?_ ?_)
      | (with_reducible refine LeO.bind ?_ (fun _ => ?_))
      | exact ih0 _ _ _ _ _
      | exact ih1 _ _ _ _ _ _ _ _
      | exact impl_fieldOK.mono _ _ _
      | exact LeO.none _
      | refine LeO.ite ?_ ?_
      | refine LeO.bind ?_ (fun _ => ?_)
theorem impl_TableOK.mono : ∀ a0 a1 a2 a3 k, LeO (impl_TableOK.f k a0 a1 a2 a3) (impl_TableOK.f (k + 1) a0 a1 a2 a3) := by
  intro a0 a1 a2 a3 k
  obtain ⟨ih0, ih1⟩ := impl_TableOK.mono_l k
  unfold impl_TableOK.f
  repeat' first
      | (with_reducible exact ih0 _ _ _ _ _)
      | (with_reducible exact ih1 _ _ _ _ _ _ _ _)
      | (with_reducible exact impl_fieldOK.mono _ _ _)
      | (with_reducible exact LeO.refl _)
      | (with_reducible exact LeO.none _)
      | (with_reducible refine LeO.ite ?_ ?_)
      | (with_reducible refine LeO.bind ?_ (fun _ => ?_))
      | exact ih0 _ _ _ _ _
      | exact ih1 _ _ _ _ _ _ _ _
      | exact impl_fieldOK.mono _ _ _
      | exact LeO.none _
      | refine LeO.ite ?_ ?_
      | refine LeO.bind ?_ (fun _ => ?_)
set_option maxHeartbeats 8000000 in
set_option maxRecDepth 100000 in
theorem impl_TableOK.calls (k : Nat) (a0_0 : Int) (a0_1 : Int) (a0_2 : Int) (A0_3 : Option Addr) (c0_3 : Nat) (l0_3 : List (S23)) (r : Bool) (w : World) (hr0_3 : Kd.C k23 w A0_3 l0_3.length l0_3) (hc0_3 : l0_3.length ≤ c0_3) (h : impl_TableOK.f k a0_0 a0_1 a0_2 l0_3 = some r) :
    Calls Try.prog 41 #[.agg #[.int .i64 a0_0, .int .i64 a0_1, .int .i64 a0_2, .slice A0_3 l0_3.length c0_3]] w fun e w' => e = .returned (.bool r) ∧ Below w.heap.size w w' := by
  have hu69 := Try.underlying69
  have hu23 := Try.underlying23
  have HR0_3 := Aside0.mk hr0_3
  have HC0_3 := Aside0.mk hc0_3
  clear hr0_3 hc0_3
  have HB := am (Below.refl w.heap.size w)
  have H : (if a0_0 < 0 then (impl_TableOK.j0 k true a0_0 a0_1 a0_2 l0_3) else (if a0_0 > 4096 then (impl_TableOK.j0 k true a0_0 a0_1 a0_2 l0_3) else (if a0_1 < 0 then (impl_TableOK.j0 k true a0_0 a0_1 a0_2 l0_3) else (if a0_1 > a0_0 then (impl_TableOK.j0 k true a0_0 a0_1 a0_2 l0_3) else (if a0_2 < (l0_3.length : Int) then (impl_TableOK.j0 k true a0_0 a0_1 a0_2 l0_3) else (impl_TableOK.j0 k (decide (a0_2 > 4611686018427387902)) a0_0 a0_1 a0_2 l0_3)))))) = some r := h
  clear h
  have HC2 := Aside0.mk H
  clear H
  go_enter Try.func41, Try.ntmps41
  go_upto_region 1 with (first | ((with_reducible refine gate_dst (N := 1) rfl ?_); (try (refine gate_guard (by rfl) ?_; dsimp only)); refine box_event ?hg (N := 1) ?hd (cs := #[.int .i64 a0_0, .int .i64 a0_1, .int .i64 a0_2, .slice A0_3 l0_3.length c0_3]) (t := 69) ?hr ?_; (case hd => rfl); (case hg => rfl); (case hr => first | (go_simp; done) | (go_simp; rfl)); intro gb196 hg w3 hbox hb; have BK196 := am (hbox); have GW196 := am ((by rw [hg]; exact (below_size (hq HB.out)) : w.heap.size ≤ gb196)); have GE196 := GW196; replace HB := am (below_step (hq HB.out) hb); clear hb hbox hg))
  (try simp only [Act.put, sA, sB, sC])
  go_cut [38] (fun v38 wc => ∃ (kq : Nat) (x38_1 : Bool), v38 = .bool x38_1 ∧ Aside0 (impl_TableOK.j0 kq x38_1 a0_0 a0_1 a0_2 l0_3 = some r) ∧ Aside0 (kq ≤ k) ∧ Aside0 (wc.heap[gb196]? = some (.cells #[.int .i64 a0_0, .int .i64 a0_1, .int .i64 a0_2, (.slice A0_3 l0_3.length c0_3)] 69 (0, 0))) ∧ Aside0 (Below w.heap.size w wc))
  case first =>
    have H := HC2.out
    clear HC2
    by_cases c4 : a0_0 < 0
    · rw [if_pos c4] at H
      have c4b0 : decide (a0_0 < 0) = true := decide_eq_true c4
      clear c4
      (first | rw [c4b0] | (simp only [i64_w, i32_w]; rw [c4b0]) | skip)
      have H' := Aside0.mk H
      clear H
      have hcz5_0 : w3.cell? ⟨gb196, 0, none⟩ = some (.int .i64 a0_0) := bc BK196 0
      have hcz5_1 : w3.cell? ⟨gb196, 1, none⟩ = some (.int .i64 a0_1) := bc BK196 1
      have hcz5_2 : w3.cell? ⟨gb196, 2, none⟩ = some (.int .i64 a0_2) := bc BK196 2
      have hcz5_3 : w3.cell? ⟨gb196, 3, none⟩ = some (.slice A0_3 l0_3.length c0_3) := bc BK196 3
      have hfz5_0 := blk_frozen BK196.out 0
      have hfz5_1 := blk_frozen BK196.out 1
      have hfz5_2 := blk_frozen BK196.out 2
      have hfz5_3 := blk_frozen BK196.out 3
      go_wp2
      go_meet
      case rel => exact ⟨_, (true), (by first | rfl | (simp; done) | (simp [*]; done)), H', ⟨by first | omega | exact Nat.le_refl _⟩, ⟨by (with_reducible repeat (first | refine blk_drewN ?_ _ | refine blk_drew ?_ | refine blk_alloc ?_ _)); exact BK196.out⟩, ⟨by repeat (with_reducible first | exact hq HB.out | refine bs ?_ GE196.out | refine us ?_)⟩⟩
    · rw [if_neg c4] at H
      have c4b0 : decide (a0_0 < 0) = false := decide_eq_false c4
      clear c4
      (first | rw [c4b0] | (simp only [i64_w, i32_w]; rw [c4b0]) | skip)
      by_cases c6 : a0_0 > 4096
      · rw [if_pos c6] at H
        have c6b0 : decide (4096 < a0_0) = true := decide_eq_true c6
        clear c6
        have H' := Aside0.mk H
        clear H
        have hcz7_0 : w3.cell? ⟨gb196, 0, none⟩ = some (.int .i64 a0_0) := bc BK196 0
        have hcz7_1 : w3.cell? ⟨gb196, 1, none⟩ = some (.int .i64 a0_1) := bc BK196 1
        have hcz7_2 : w3.cell? ⟨gb196, 2, none⟩ = some (.int .i64 a0_2) := bc BK196 2
        have hcz7_3 : w3.cell? ⟨gb196, 3, none⟩ = some (.slice A0_3 l0_3.length c0_3) := bc BK196 3
        have hfz7_0 := blk_frozen BK196.out 0
        have hfz7_1 := blk_frozen BK196.out 1
        have hfz7_2 := blk_frozen BK196.out 2
        have hfz7_3 := blk_frozen BK196.out 3
        go_wp2
        go_meet
        case rel => exact ⟨_, (true), (by first | rfl | (simp; done) | (simp [*]; done)), H', ⟨by first | omega | exact Nat.le_refl _⟩, ⟨by (with_reducible repeat (first | refine blk_drewN ?_ _ | refine blk_drew ?_ | refine blk_alloc ?_ _)); exact BK196.out⟩, ⟨by repeat (with_reducible first | exact hq HB.out | refine bs ?_ GE196.out | refine us ?_)⟩⟩
      · rw [if_neg c6] at H
        have c6b0 : decide (4096 < a0_0) = false := decide_eq_false c6
        clear c6
        by_cases c8 : a0_1 < 0
        · rw [if_pos c8] at H
          have c8b0 : decide (a0_1 < 0) = true := decide_eq_true c8
          clear c8
          have H' := Aside0.mk H
          clear H
          have hcz9_0 : w3.cell? ⟨gb196, 0, none⟩ = some (.int .i64 a0_0) := bc BK196 0
          have hcz9_1 : w3.cell? ⟨gb196, 1, none⟩ = some (.int .i64 a0_1) := bc BK196 1
          have hcz9_2 : w3.cell? ⟨gb196, 2, none⟩ = some (.int .i64 a0_2) := bc BK196 2
          have hcz9_3 : w3.cell? ⟨gb196, 3, none⟩ = some (.slice A0_3 l0_3.length c0_3) := bc BK196 3
          have hfz9_0 := blk_frozen BK196.out 0
          have hfz9_1 := blk_frozen BK196.out 1
          have hfz9_2 := blk_frozen BK196.out 2
          have hfz9_3 := blk_frozen BK196.out 3
          go_wp2
          go_meet
          case rel => exact ⟨_, (true), (by first | rfl | (simp; done) | (simp [*]; done)), H', ⟨by first | omega | exact Nat.le_refl _⟩, ⟨by (with_reducible repeat (first | refine blk_drewN ?_ _ | refine blk_drew ?_ | refine blk_alloc ?_ _)); exact BK196.out⟩, ⟨by repeat (with_reducible first | exact hq HB.out | refine bs ?_ GE196.out | refine us ?_)⟩⟩
        · rw [if_neg c8] at H
          have c8b0 : decide (a0_1 < 0) = false := decide_eq_false c8
          clear c8
          by_cases c10 : a0_1 > a0_0
          · rw [if_pos c10] at H
            have c10b0 : decide (a0_0 < a0_1) = true := decide_eq_true c10
            clear c10
            have H' := Aside0.mk H
            clear H
            have hcz11_0 : w3.cell? ⟨gb196, 0, none⟩ = some (.int .i64 a0_0) := bc BK196 0
            have hcz11_1 : w3.cell? ⟨gb196, 1, none⟩ = some (.int .i64 a0_1) := bc BK196 1
            have hcz11_2 : w3.cell? ⟨gb196, 2, none⟩ = some (.int .i64 a0_2) := bc BK196 2
            have hcz11_3 : w3.cell? ⟨gb196, 3, none⟩ = some (.slice A0_3 l0_3.length c0_3) := bc BK196 3
            have hfz11_0 := blk_frozen BK196.out 0
            have hfz11_1 := blk_frozen BK196.out 1
            have hfz11_2 := blk_frozen BK196.out 2
            have hfz11_3 := blk_frozen BK196.out 3
            go_wp2
            go_meet
            case rel => exact ⟨_, (true), (by first | rfl | (simp; done) | (simp [*]; done)), H', ⟨by first | omega | exact Nat.le_refl _⟩, ⟨by (with_reducible repeat (first | refine blk_drewN ?_ _ | refine blk_drew ?_ | refine blk_alloc ?_ _)); exact BK196.out⟩, ⟨by repeat (with_reducible first | exact hq HB.out | refine bs ?_ GE196.out | refine us ?_)⟩⟩
          · rw [if_neg c10] at H
            have c10b0 : decide (a0_0 < a0_1) = false := decide_eq_false c10
            clear c10
            by_cases c12 : a0_2 < (l0_3.length : Int)
            · rw [if_pos c12] at H
              have c12b0 : decide (a0_2 < (l0_3.length : Int)) = true := decide_eq_true c12
              clear c12
              have H' := Aside0.mk H
              clear H
              have hcz13_0 : w3.cell? ⟨gb196, 0, none⟩ = some (.int .i64 a0_0) := bc BK196 0
              have hcz13_1 : w3.cell? ⟨gb196, 1, none⟩ = some (.int .i64 a0_1) := bc BK196 1
              have hcz13_2 : w3.cell? ⟨gb196, 2, none⟩ = some (.int .i64 a0_2) := bc BK196 2
              have hcz13_3 : w3.cell? ⟨gb196, 3, none⟩ = some (.slice A0_3 l0_3.length c0_3) := bc BK196 3
              have hfz13_0 := blk_frozen BK196.out 0
              have hfz13_1 := blk_frozen BK196.out 1
              have hfz13_2 := blk_frozen BK196.out 2
              have hfz13_3 := blk_frozen BK196.out 3
              go_wp2
              go_meet
              case rel => exact ⟨_, (true), (by first | rfl | (simp; done) | (simp [*]; done)), H', ⟨by first | omega | exact Nat.le_refl _⟩, ⟨by (with_reducible repeat (first | refine blk_drewN ?_ _ | refine blk_drew ?_ | refine blk_alloc ?_ _)); exact BK196.out⟩, ⟨by repeat (with_reducible first | exact hq HB.out | refine bs ?_ GE196.out | refine us ?_)⟩⟩
            · rw [if_neg c12] at H
              have c12b0 : decide (a0_2 < (l0_3.length : Int)) = false := decide_eq_false c12
              clear c12
              have H' := Aside0.mk H
              clear H
              have hcz14_0 : w3.cell? ⟨gb196, 0, none⟩ = some (.int .i64 a0_0) := bc BK196 0
              have hcz14_1 : w3.cell? ⟨gb196, 1, none⟩ = some (.int .i64 a0_1) := bc BK196 1
              have hcz14_2 : w3.cell? ⟨gb196, 2, none⟩ = some (.int .i64 a0_2) := bc BK196 2
              have hcz14_3 : w3.cell? ⟨gb196, 3, none⟩ = some (.slice A0_3 l0_3.length c0_3) := bc BK196 3
              have hfz14_0 := blk_frozen BK196.out 0
              have hfz14_1 := blk_frozen BK196.out 1
              have hfz14_2 := blk_frozen BK196.out 2
              have hfz14_3 := blk_frozen BK196.out 3
              go_wp2
              go_meet
              case rel => exact ⟨_, (decide (a0_2 > 4611686018427387902)), (by first | rfl | (simp; done) | (simp [*]; done)), H', ⟨by first | omega | exact Nat.le_refl _⟩, ⟨by (with_reducible repeat (first | refine blk_drewN ?_ _ | refine blk_drew ?_ | refine blk_alloc ?_ _)); exact BK196.out⟩, ⟨by repeat (with_reducible first | exact hq HB.out | refine bs ?_ GE196.out | refine us ?_)⟩⟩
  case rest =>
    clear HC2
    try clear c1
    try clear p2
    try clear c4
    try clear c4b0
    try clear c6
    try clear c6b0
    try clear c8
    try clear c8b0
    try clear c10
    try clear c10b0
    try clear c12
    try clear c12b0
    try clear hcz11_0
    try clear hcz11_1
    try clear hcz11_2
    try clear hcz11_3
    try clear hcz13_0
    try clear hcz13_1
    try clear hcz13_2
    try clear hcz13_3
    try clear hcz14_0
    try clear hcz14_1
    try clear hcz14_2
    try clear hcz14_3
    try clear hcz5_0
    try clear hcz5_1
    try clear hcz5_2
    try clear hcz5_3
    try clear hcz7_0
    try clear hcz7_1
    try clear hcz7_2
    try clear hcz7_3
    try clear hcz9_0
    try clear hcz9_1
    try clear hcz9_2
    try clear hcz9_3
    try clear hfz11_0
    try clear hfz11_1
    try clear hfz11_2
    try clear hfz11_3
    try clear hfz13_0
    try clear hfz13_1
    try clear hfz13_2
    try clear hfz13_3
    try clear hfz14_0
    try clear hfz14_1
    try clear hfz14_2
    try clear hfz14_3
    try clear hfz5_0
    try clear hfz5_1
    try clear hfz5_2
    try clear hfz5_3
    try clear hfz7_0
    try clear hfz7_1
    try clear hfz7_2
    try clear hfz7_3
    try clear hfz9_0
    try clear hfz9_1
    try clear hfz9_2
    try clear hfz9_3
    obtain ⟨kq, x38_1, rfl, HA, HJ1, BK196, HB⟩ := hcut
    cases kq with
    | zero => exact absurd HA.out (by simp [impl_TableOK.j0])
    | succ kj1 =>
      have H := HA.out
      clear HA
      simp only [impl_TableOK.j0] at H
      by_cases c15 : x38_1 = true
      · subst c15
        have H1 : (some false) = some r := by rw [if_pos rfl] at H; exact H
        clear H
        have H := H1
        clear H1
        obtain rfl := Option.some.inj H
        go_wp2
        go_ret
        exact ⟨by first | rfl | (simp [errW_none, errW_some] <;> rfl) | (simp [*, errW_none, errW_some] <;> rfl), by repeat (with_reducible first | exact hq HB.out | refine bs ?_ GE196.out | refine us ?_)⟩
      · replace c15 := Bool.eq_false_iff.mpr c15
        subst c15
        have H1 : (impl_TableOK.l0 kj1 0 l0_3 (l0_3.length : Int) 0 a0_0 a0_1 a0_2 l0_3) = some r := by rw [if_neg (show ¬ (false = true) by decide)] at H; exact H
        clear H
        have H := H1
        clear H1
        have H' := Aside0.mk H
        clear H
        have hcz16_0 : wc.cell? ⟨gb196, 0, none⟩ = some (.int .i64 a0_0) := bc BK196 0
        have hcz16_1 : wc.cell? ⟨gb196, 1, none⟩ = some (.int .i64 a0_1) := bc BK196 1
        have hcz16_2 : wc.cell? ⟨gb196, 2, none⟩ = some (.int .i64 a0_2) := bc BK196 2
        have hcz16_3 : wc.cell? ⟨gb196, 3, none⟩ = some (.slice A0_3 l0_3.length c0_3) := bc BK196 3
        have hfz16_0 := blk_frozen BK196.out 0
        have hfz16_1 := blk_frozen BK196.out 1
        have hfz16_2 := blk_frozen BK196.out 2
        have hfz16_3 := blk_frozen BK196.out 3
        go_wp2
        go_loopg [3, 42] kj1 (fun kq v3 v42 w' => ∃ (x3_2 : Int) (x42_2 : Int), v3 = .int .i64 x3_2 ∧ v42 = .int .i64 x42_2 ∧ Aside0 (impl_TableOK.l0 kq x3_2 l0_3 (l0_3.length : Int) x42_2 a0_0 a0_1 a0_2 l0_3 = some r) ∧ Aside0 (kq ≤ kj1) ∧ Aside0 (w'.heap[gb196]? = some (.cells #[.int .i64 a0_0, .int .i64 a0_1, .int .i64 a0_2, (.slice A0_3 l0_3.length c0_3)] 69 (0, 0))) ∧ Aside0 (Below w.heap.size w w'))
        case atStart => exact ⟨(0), (0), (by first | rfl | (simp; done) | (simp [*]; done)), (by first | rfl | (simp; done) | (simp [*]; done)), H', ⟨Nat.le_refl _⟩, ⟨by (with_reducible repeat (first | refine blk_drewN ?_ _ | refine blk_drew ?_ | refine blk_alloc ?_ _)); exact BK196.out⟩, ⟨by repeat (with_reducible first | exact hq HB.out | refine bs ?_ GE196.out | refine us ?_)⟩⟩
        case round =>
          clear H'
          try clear c1
          try clear p2
          try clear c4
          try clear c4b0
          try clear c6
          try clear c6b0
          try clear c8
          try clear c8b0
          try clear c10
          try clear c10b0
          try clear c12
          try clear c12b0
          try clear c15
          try clear hcz11_0
          try clear hcz11_1
          try clear hcz11_2
          try clear hcz11_3
          try clear hcz13_0
          try clear hcz13_1
          try clear hcz13_2
          try clear hcz13_3
          try clear hcz14_0
          try clear hcz14_1
          try clear hcz14_2
          try clear hcz14_3
          try clear hcz16_0
          try clear hcz16_1
          try clear hcz16_2
          try clear hcz16_3
          try clear hcz5_0
          try clear hcz5_1
          try clear hcz5_2
          try clear hcz5_3
          try clear hcz7_0
          try clear hcz7_1
          try clear hcz7_2
          try clear hcz7_3
          try clear hcz9_0
          try clear hcz9_1
          try clear hcz9_2
          try clear hcz9_3
          try clear hfz11_0
          try clear hfz11_1
          try clear hfz11_2
          try clear hfz11_3
          try clear hfz13_0
          try clear hfz13_1
          try clear hfz13_2
          try clear hfz13_3
          try clear hfz14_0
          try clear hfz14_1
          try clear hfz14_2
          try clear hfz14_3
          try clear hfz16_0
          try clear hfz16_1
          try clear hfz16_2
          try clear hfz16_3
          try clear hfz5_0
          try clear hfz5_1
          try clear hfz5_2
          try clear hfz5_3
          try clear hfz7_0
          try clear hfz7_1
          try clear hfz7_2
          try clear hfz7_3
          try clear hfz9_0
          try clear hfz9_1
          try clear hfz9_2
          try clear hfz9_3
          try clear p2
          obtain ⟨x3_2, x42_2, rfl, rfl, HA, HK2, BK196, HB⟩ := hrel
          cases gk with
          | zero => exact absurd HA.out (by simp [impl_TableOK.l0])
          | succ k2 =>
            have H := HA.out
            clear HA
            simp only [impl_TableOK.l0] at H
            by_cases c17 : x42_2 < (l0_3.length : Int)
            · rw [if_pos c17] at H
              have c17b0 : decide (x42_2 < (l0_3.length : Int)) = true := decide_eq_true c17
              clear c17
              by_cases c18 : 0 ≤ x42_2
              · rw [if_pos c18] at H
                have c18b0 : decide (0 ≤ x42_2) = true := decide_eq_true c18
                clear c18
                by_cases c19 : x42_2 < (l0_3.length : Int)
                · rw [if_pos c19] at H
                  have c19b0 : decide (x42_2 < (l0_3.length : Int)) = true := decide_eq_true c19
                  clear c19
                  replace H := Option.bind_eq_some_iff.mp H
                  obtain ⟨t199, A200, H⟩ := H
                  replace H : (if (wrap64 (x3_2 + t199)) > a0_1 then (some false) else ((impl_fieldOK.f k2 ((rd_T23 l0_3 x42_2).f0) ((rd_T23 l0_3 x42_2).f1)).bind fun t200 => (if t200 = true then (impl_TableOK.l0 k2 (wrap64 (x3_2 + t199)) l0_3 (l0_3.length : Int) (wrap64 (x42_2 + 1)) a0_0 a0_1 a0_2 l0_3) else (some false)))) = some r := H
                  have A20 := Aside0.mk A200
                  clear A200
                  by_cases c21 : (wrap64 (x3_2 + t199)) > a0_1
                  · rw [if_pos c21] at H
                    have c21b0 : decide (a0_1 < (wrap64 (x3_2 + t199))) = true := decide_eq_true c21
                    clear c21
                    obtain rfl := Option.some.inj H
                    have p197 : 0 ≤ (x42_2 : Int) := of_decide_eq_true (by first | (with_reducible assumption) | assumption)
                    have q197 : x42_2 < (l0_3.length : Int) := of_decide_eq_true (by first | (with_reducible assumption) | assumption)
                    obtain ⟨ad197, e197, hx197_0, hx197_1⟩ := at_T23 HR0_3.out x42_2 p197 q197
                    cases e197
                    replace hx197_0 := (HB.out.cell (World.block_lt_of_cell? w _ hx197_0)).trans hx197_0
                    replace hx197_1 := (HB.out.cell (World.block_lt_of_cell? w _ hx197_1)).trans hx197_1
                    replace p197 := eq_true p197
                    replace q197 := eq_true q197
                    go_wp2_with (first | ((with_reducible refine gate_dst (N := 5) rfl ?_); (try (refine gate_guard (by rfl) ?_; dsimp only)); refine box_event ?hg (N := 5) ?hd (cs := #[.string (⟨#[]⟩ : ByteArray), .string (⟨#[]⟩ : ByteArray)]) (t := 23) ?hr ?_; (case hd => rfl); (case hg => rfl); (case hr => first | (go_simp; done) | (go_simp; rfl)); intro gb198 hg w22 hbox hb; have BK198 := am (hbox); have GW198 := am ((by rw [hg]; exact (below_size (by repeat (with_reducible first | exact hq HB.out | refine bs ?_ GE196.out | refine us ?_))) : w.heap.size ≤ gb198)); have GE198 := GW198; have NB196_198 := am ((by rw [hg]; exact Nat.ne_of_lt (blk_lt (bq BK196.out)) : gb196 ≠ gb198)); have NB198_196 := am ((by rw [hg]; exact Nat.ne_of_gt (blk_lt (bq BK196.out)) : gb198 ≠ gb196)); replace BK196 := am (blk_below (bq BK196.out) hb); replace HB := am (below_step (by repeat (with_reducible first | exact hq HB.out | refine bs ?_ GE196.out | refine us ?_)) hb); clear hb hbox hg; have hnb23 := NB198_196.out; have hnc23 := NB196_198.out; have hcz24_0 : w22.cell? ⟨gb198, 0, none⟩ = some (.string (⟨#[]⟩ : ByteArray)) := bc BK198 0; have hcz24_1 : w22.cell? ⟨gb198, 1, none⟩ = some (.string (⟨#[]⟩ : ByteArray)) := bc BK198 1; have hfz24_0 := blk_frozen BK198.out 0; have hfz24_1 := blk_frozen BK198.out 1) | ((with_reducible refine gate_callee (f := 103) rfl ?_); refine goesL_ (some 48) rfl rfl Try.func103 (by kernel_rfl) rfl #[.agg #[.string ((rd_T23 l0_3 x42_2).f0), .string ((rd_T23 l0_3 x42_2).f1)]] rfl (by (try simp only [List.map_toArray, List.map_cons, List.map_nil]); first | done | rfl | (simp only [List.length_drop, List.length_take]; rfl)) ?_; (with_reducible refine (impl_costOf.calls ((rd_T23 l0_3 x42_2).f0) ((rd_T23 l0_3 x42_2).f1) t199 _ A20.out).mono ?_); rintro e w25 ⟨rfl, hb⟩; refine ⟨_, rfl, ?_⟩; replace BK196 := am (blk_below (g := gb196) (o := .cells #[.int .i64 a0_0, .int .i64 a0_1, .int .i64 a0_2, .slice (some ad197) l0_3.length c0_3] 69 (0, 0)) (bu (blk_far (bu (blk_far (bq BK196.out) NB196_198.out _)) NB196_198.out _)) hb); replace BK198 := am (blk_below (g := gb198) (o := .cells #[.string ((rd_T23 l0_3 x42_2).f0), .string ((rd_T23 l0_3 x42_2).f1)] 23 (0, 0)) (by (with_reducible repeat (first | refine blk_drewN ?_ _ | refine blk_drew ?_ | refine blk_alloc ?_ _)); refine blk_put (cs := #[.string ((rd_T23 l0_3 x42_2).f0), .string (⟨#[]⟩ : ByteArray)]) ?_ 1 _ rfl; (with_reducible repeat (first | refine blk_drewN ?_ _ | refine blk_drew ?_ | refine blk_alloc ?_ _)); refine blk_put (cs := #[.string (⟨#[]⟩ : ByteArray), .string (⟨#[]⟩ : ByteArray)]) ?_ 0 _ rfl; (with_reducible repeat (first | refine blk_drewN ?_ _ | refine blk_drew ?_ | refine blk_alloc ?_ _)); exact BK198.out) hb); replace HB := am (below_step (by repeat (with_reducible first | exact hq HB.out | refine bs ?_ GE196.out | refine bs ?_ GE198.out | refine us ?_)) hb); (try clear hb); (try clear hb2); (try clear hk); (try clear hi); have hcz26_0 : w25.cell? ⟨gb196, 0, none⟩ = some (.int .i64 a0_0) := bc BK196 0; have hcz26_1 : w25.cell? ⟨gb196, 1, none⟩ = some (.int .i64 a0_1) := bc BK196 1; have hcz26_2 : w25.cell? ⟨gb196, 2, none⟩ = some (.int .i64 a0_2) := bc BK196 2; have hcz26_3 : w25.cell? ⟨gb196, 3, none⟩ = some (.slice (some ad197) l0_3.length c0_3) := bc BK196 3; have hfz26_0 := blk_frozen BK196.out 0; have hfz26_1 := blk_frozen BK196.out 1; have hfz26_2 := blk_frozen BK196.out 2; have hfz26_3 := blk_frozen BK196.out 3))
                    go_ret
                    exact ⟨by first | rfl | (simp [errW_none, errW_some] <;> rfl) | (simp [*, errW_none, errW_some] <;> rfl), by repeat (with_reducible first | exact hq HB.out | refine bs ?_ GE196.out | refine bs ?_ GE198.out | refine us ?_)⟩
                  · rw [if_neg c21] at H
                    have c21b0 : decide (a0_1 < (wrap64 (x3_2 + t199))) = false := decide_eq_false c21
                    clear c21
                    replace H := Option.bind_eq_some_iff.mp H
                    obtain ⟨t200, A270, H⟩ := H
                    replace H : (if t200 = true then (impl_TableOK.l0 k2 (wrap64 (x3_2 + t199)) l0_3 (l0_3.length : Int) (wrap64 (x42_2 + 1)) a0_0 a0_1 a0_2 l0_3) else (some false)) = some r := H
                    have A27 := Aside0.mk A270
                    clear A270
                    by_cases c28 : t200 = true
                    · subst c28
                      have H1 : (impl_TableOK.l0 k2 (wrap64 (x3_2 + t199)) l0_3 (l0_3.length : Int) (wrap64 (x42_2 + 1)) a0_0 a0_1 a0_2 l0_3) = some r := by rw [if_pos rfl] at H; exact H
                      clear H
                      have H := H1
                      clear H1
                      have H' := Aside0.mk H
                      clear H
                      have p197 : 0 ≤ (x42_2 : Int) := of_decide_eq_true (by first | (with_reducible assumption) | assumption)
                      have q197 : x42_2 < (l0_3.length : Int) := of_decide_eq_true (by first | (with_reducible assumption) | assumption)
                      obtain ⟨ad197, e197, hx197_0, hx197_1⟩ := at_T23 HR0_3.out x42_2 p197 q197
                      cases e197
                      replace hx197_0 := (HB.out.cell (World.block_lt_of_cell? w _ hx197_0)).trans hx197_0
                      replace hx197_1 := (HB.out.cell (World.block_lt_of_cell? w _ hx197_1)).trans hx197_1
                      replace p197 := eq_true p197
                      replace q197 := eq_true q197
                      go_wp2_with (first | ((with_reducible refine gate_dst (N := 5) rfl ?_); (try (refine gate_guard (by rfl) ?_; dsimp only)); refine box_event ?hg (N := 5) ?hd (cs := #[.string (⟨#[]⟩ : ByteArray), .string (⟨#[]⟩ : ByteArray)]) (t := 23) ?hr ?_; (case hd => rfl); (case hg => rfl); (case hr => first | (go_simp; done) | (go_simp; rfl)); intro gb198 hg w29 hbox hb; have BK198 := am (hbox); have GW198 := am ((by rw [hg]; exact (below_size (by repeat (with_reducible first | exact hq HB.out | refine bs ?_ GE196.out | refine us ?_))) : w.heap.size ≤ gb198)); have GE198 := GW198; have NB196_198 := am ((by rw [hg]; exact Nat.ne_of_lt (blk_lt (bq BK196.out)) : gb196 ≠ gb198)); have NB198_196 := am ((by rw [hg]; exact Nat.ne_of_gt (blk_lt (bq BK196.out)) : gb198 ≠ gb196)); replace BK196 := am (blk_below (bq BK196.out) hb); replace HB := am (below_step (by repeat (with_reducible first | exact hq HB.out | refine bs ?_ GE196.out | refine us ?_)) hb); clear hb hbox hg; have hnb30 := NB198_196.out; have hnc30 := NB196_198.out; have hcz31_0 : w29.cell? ⟨gb198, 0, none⟩ = some (.string (⟨#[]⟩ : ByteArray)) := bc BK198 0; have hcz31_1 : w29.cell? ⟨gb198, 1, none⟩ = some (.string (⟨#[]⟩ : ByteArray)) := bc BK198 1; have hfz31_0 := blk_frozen BK198.out 0; have hfz31_1 := blk_frozen BK198.out 1) | ((with_reducible refine gate_callee (f := 103) rfl ?_); refine goesL_ (some 48) rfl rfl Try.func103 (by kernel_rfl) rfl #[.agg #[.string ((rd_T23 l0_3 x42_2).f0), .string ((rd_T23 l0_3 x42_2).f1)]] rfl (by (try simp only [List.map_toArray, List.map_cons, List.map_nil]); first | done | rfl | (simp only [List.length_drop, List.length_take]; rfl)) ?_; (with_reducible refine (impl_costOf.calls ((rd_T23 l0_3 x42_2).f0) ((rd_T23 l0_3 x42_2).f1) t199 _ A20.out).mono ?_); rintro e w32 ⟨rfl, hb⟩; refine ⟨_, rfl, ?_⟩; replace BK196 := am (blk_below (g := gb196) (o := .cells #[.int .i64 a0_0, .int .i64 a0_1, .int .i64 a0_2, .slice (some ad197) l0_3.length c0_3] 69 (0, 0)) (bu (blk_far (bu (blk_far (bq BK196.out) NB196_198.out _)) NB196_198.out _)) hb); replace BK198 := am (blk_below (g := gb198) (o := .cells #[.string ((rd_T23 l0_3 x42_2).f0), .string ((rd_T23 l0_3 x42_2).f1)] 23 (0, 0)) (by (with_reducible repeat (first | refine blk_drewN ?_ _ | refine blk_drew ?_ | refine blk_alloc ?_ _)); refine blk_put (cs := #[.string ((rd_T23 l0_3 x42_2).f0), .string (⟨#[]⟩ : ByteArray)]) ?_ 1 _ rfl; (with_reducible repeat (first | refine blk_drewN ?_ _ | refine blk_drew ?_ | refine blk_alloc ?_ _)); refine blk_put (cs := #[.string (⟨#[]⟩ : ByteArray), .string (⟨#[]⟩ : ByteArray)]) ?_ 0 _ rfl; (with_reducible repeat (first | refine blk_drewN ?_ _ | refine blk_drew ?_ | refine blk_alloc ?_ _)); exact BK198.out) hb); replace HB := am (below_step (by repeat (with_reducible first | exact hq HB.out | refine bs ?_ GE196.out | refine bs ?_ GE198.out | refine us ?_)) hb); (try clear hb); (try clear hb2); (try clear hk); (try clear hi); have hcz33_0 : w32.cell? ⟨gb196, 0, none⟩ = some (.int .i64 a0_0) := bc BK196 0; have hcz33_1 : w32.cell? ⟨gb196, 1, none⟩ = some (.int .i64 a0_1) := bc BK196 1; have hcz33_2 : w32.cell? ⟨gb196, 2, none⟩ = some (.int .i64 a0_2) := bc BK196 2; have hcz33_3 : w32.cell? ⟨gb196, 3, none⟩ = some (.slice (some ad197) l0_3.length c0_3) := bc BK196 3; have hfz33_0 := blk_frozen BK196.out 0; have hfz33_1 := blk_frozen BK196.out 1; have hfz33_2 := blk_frozen BK196.out 2; have hfz33_3 := blk_frozen BK196.out 3; have hcz34_0 : w32.cell? ⟨gb198, 0, none⟩ = some (.string ((rd_T23 l0_3 x42_2).f0)) := bc BK198 0; have hcz34_1 : w32.cell? ⟨gb198, 1, none⟩ = some (.string ((rd_T23 l0_3 x42_2).f1)) := bc BK198 1; have hfz34_0 := blk_frozen BK198.out 0; have hfz34_1 := blk_frozen BK198.out 1) | (go_at_call 104; (with_reducible refine (impl_fieldOK.calls k2 ((rd_T23 l0_3 x42_2).f0) ((rd_T23 l0_3 x42_2).f1) true _ A27.out).mono ?_); rintro e w35 ⟨rfl, hb⟩; replace BK196 := am (blk_below (bq BK196.out) hb); replace BK198 := am (blk_below (bq BK198.out) hb); replace HB := am (below_step (by repeat (with_reducible first | exact hq HB.out | refine bs ?_ GE196.out | refine bs ?_ GE198.out | refine us ?_)) hb); (try clear hb); (try clear hb2); (try clear hk); (try clear hi)))
                      go_roundg k2
                      case measure => have := HJ1.out; have := HK2.out; omega
                      case rel => exact ⟨(wrap64 (x3_2 + t199)), (wrap64 (x42_2 + 1)), (by first | rfl | (simp; done) | (simp [*]; done)), (by first | rfl | (simp; done) | (simp [*]; done)), H', ⟨by have := HJ1.out; have := HK2.out; omega⟩, ⟨by (with_reducible repeat (first | refine blk_drewN ?_ _ | refine blk_drew ?_ | refine blk_alloc ?_ _)); exact BK196.out⟩, ⟨by repeat (with_reducible first | exact hq HB.out | refine bs ?_ GE196.out | refine bs ?_ GE198.out | refine us ?_)⟩⟩
                    · replace c28 := Bool.eq_false_iff.mpr c28
                      subst c28
                      have H1 : (some false) = some r := by rw [if_neg (show ¬ (false = true) by decide)] at H; exact H
                      clear H
                      have H := H1
                      clear H1
                      obtain rfl := Option.some.inj H
                      have p197 : 0 ≤ (x42_2 : Int) := of_decide_eq_true (by first | (with_reducible assumption) | assumption)
                      have q197 : x42_2 < (l0_3.length : Int) := of_decide_eq_true (by first | (with_reducible assumption) | assumption)
                      obtain ⟨ad197, e197, hx197_0, hx197_1⟩ := at_T23 HR0_3.out x42_2 p197 q197
                      cases e197
                      replace hx197_0 := (HB.out.cell (World.block_lt_of_cell? w _ hx197_0)).trans hx197_0
                      replace hx197_1 := (HB.out.cell (World.block_lt_of_cell? w _ hx197_1)).trans hx197_1
                      replace p197 := eq_true p197
                      replace q197 := eq_true q197
                      go_wp2_with (first | ((with_reducible refine gate_dst (N := 5) rfl ?_); (try (refine gate_guard (by rfl) ?_; dsimp only)); refine box_event ?hg (N := 5) ?hd (cs := #[.string (⟨#[]⟩ : ByteArray), .string (⟨#[]⟩ : ByteArray)]) (t := 23) ?hr ?_; (case hd => rfl); (case hg => rfl); (case hr => first | (go_simp; done) | (go_simp; rfl)); intro gb198 hg w36 hbox hb; have BK198 := am (hbox); have GW198 := am ((by rw [hg]; exact (below_size (by repeat (with_reducible first | exact hq HB.out | refine bs ?_ GE196.out | refine us ?_))) : w.heap.size ≤ gb198)); have GE198 := GW198; have NB196_198 := am ((by rw [hg]; exact Nat.ne_of_lt (blk_lt (bq BK196.out)) : gb196 ≠ gb198)); have NB198_196 := am ((by rw [hg]; exact Nat.ne_of_gt (blk_lt (bq BK196.out)) : gb198 ≠ gb196)); replace BK196 := am (blk_below (bq BK196.out) hb); replace HB := am (below_step (by repeat (with_reducible first | exact hq HB.out | refine bs ?_ GE196.out | refine us ?_)) hb); clear hb hbox hg; have hnb37 := NB198_196.out; have hnc37 := NB196_198.out; have hcz38_0 : w36.cell? ⟨gb198, 0, none⟩ = some (.string (⟨#[]⟩ : ByteArray)) := bc BK198 0; have hcz38_1 : w36.cell? ⟨gb198, 1, none⟩ = some (.string (⟨#[]⟩ : ByteArray)) := bc BK198 1; have hfz38_0 := blk_frozen BK198.out 0; have hfz38_1 := blk_frozen BK198.out 1) | ((with_reducible refine gate_callee (f := 103) rfl ?_); refine goesL_ (some 48) rfl rfl Try.func103 (by kernel_rfl) rfl #[.agg #[.string ((rd_T23 l0_3 x42_2).f0), .string ((rd_T23 l0_3 x42_2).f1)]] rfl (by (try simp only [List.map_toArray, List.map_cons, List.map_nil]); first | done | rfl | (simp only [List.length_drop, List.length_take]; rfl)) ?_; (with_reducible refine (impl_costOf.calls ((rd_T23 l0_3 x42_2).f0) ((rd_T23 l0_3 x42_2).f1) t199 _ A20.out).mono ?_); rintro e w39 ⟨rfl, hb⟩; refine ⟨_, rfl, ?_⟩; replace BK196 := am (blk_below (g := gb196) (o := .cells #[.int .i64 a0_0, .int .i64 a0_1, .int .i64 a0_2, .slice (some ad197) l0_3.length c0_3] 69 (0, 0)) (bu (blk_far (bu (blk_far (bq BK196.out) NB196_198.out _)) NB196_198.out _)) hb); replace BK198 := am (blk_below (g := gb198) (o := .cells #[.string ((rd_T23 l0_3 x42_2).f0), .string ((rd_T23 l0_3 x42_2).f1)] 23 (0, 0)) (by (with_reducible repeat (first | refine blk_drewN ?_ _ | refine blk_drew ?_ | refine blk_alloc ?_ _)); refine blk_put (cs := #[.string ((rd_T23 l0_3 x42_2).f0), .string (⟨#[]⟩ : ByteArray)]) ?_ 1 _ rfl; (with_reducible repeat (first | refine blk_drewN ?_ _ | refine blk_drew ?_ | refine blk_alloc ?_ _)); refine blk_put (cs := #[.string (⟨#[]⟩ : ByteArray), .string (⟨#[]⟩ : ByteArray)]) ?_ 0 _ rfl; (with_reducible repeat (first | refine blk_drewN ?_ _ | refine blk_drew ?_ | refine blk_alloc ?_ _)); exact BK198.out) hb); replace HB := am (below_step (by repeat (with_reducible first | exact hq HB.out | refine bs ?_ GE196.out | refine bs ?_ GE198.out | refine us ?_)) hb); (try clear hb); (try clear hb2); (try clear hk); (try clear hi); have hcz40_0 : w39.cell? ⟨gb196, 0, none⟩ = some (.int .i64 a0_0) := bc BK196 0; have hcz40_1 : w39.cell? ⟨gb196, 1, none⟩ = some (.int .i64 a0_1) := bc BK196 1; have hcz40_2 : w39.cell? ⟨gb196, 2, none⟩ = some (.int .i64 a0_2) := bc BK196 2; have hcz40_3 : w39.cell? ⟨gb196, 3, none⟩ = some (.slice (some ad197) l0_3.length c0_3) := bc BK196 3; have hfz40_0 := blk_frozen BK196.out 0; have hfz40_1 := blk_frozen BK196.out 1; have hfz40_2 := blk_frozen BK196.out 2; have hfz40_3 := blk_frozen BK196.out 3; have hcz41_0 : w39.cell? ⟨gb198, 0, none⟩ = some (.string ((rd_T23 l0_3 x42_2).f0)) := bc BK198 0; have hcz41_1 : w39.cell? ⟨gb198, 1, none⟩ = some (.string ((rd_T23 l0_3 x42_2).f1)) := bc BK198 1; have hfz41_0 := blk_frozen BK198.out 0; have hfz41_1 := blk_frozen BK198.out 1) | (go_at_call 104; (with_reducible refine (impl_fieldOK.calls k2 ((rd_T23 l0_3 x42_2).f0) ((rd_T23 l0_3 x42_2).f1) false _ A27.out).mono ?_); rintro e w42 ⟨rfl, hb⟩; replace BK196 := am (blk_below (bq BK196.out) hb); replace BK198 := am (blk_below (bq BK198.out) hb); replace HB := am (below_step (by repeat (with_reducible first | exact hq HB.out | refine bs ?_ GE196.out | refine bs ?_ GE198.out | refine us ?_)) hb); (try clear hb); (try clear hb2); (try clear hk); (try clear hi)))
                      go_ret
                      exact ⟨by first | rfl | (simp [errW_none, errW_some] <;> rfl) | (simp [*, errW_none, errW_some] <;> rfl), by repeat (with_reducible first | exact hq HB.out | refine bs ?_ GE196.out | refine bs ?_ GE198.out | refine us ?_)⟩
                · rw [if_neg c19] at H
                  exact absurd H (by simp)
              · rw [if_neg c18] at H
                exact absurd H (by simp)
            · rw [if_neg c17] at H
              have c17b0 : decide (x42_2 < (l0_3.length : Int)) = false := decide_eq_false c17
              clear c17
              obtain rfl := Option.some.inj H
              go_wp2
              go_ret
              exact ⟨by first | rfl | (simp [errW_none, errW_some] <;> rfl) | (simp [*, errW_none, errW_some] <;> rfl), by repeat (with_reducible first | exact hq HB.out | refine bs ?_ GE196.out | refine us ?_)⟩

/-! ### impl_Table_cost: function 161 -/
def impl_Table_cost.l0 : Nat → Int → List (S23) → Int → Int → Option (Int)
  | 0, _, _, _, _ => none
  | k + 1, x3, x7, x8, x9 => if x9 < x8 then (if 0 ≤ x9 then (if x9 < (x7.length : Int) then ((impl_costOf.f ((rd_T23 x7 x9).f0) ((rd_T23 x7 x9).f1)).bind fun t204 => (impl_Table_cost.l0 k (wrap64 (x3 + t204)) x7 x8 (wrap64 (x9 + 1)))) else (none)) else (none)) else (some x3)
def impl_Table_cost.f (k : Nat) (a0_0 : Int) (a0_1 : Int) (a0_2 : Int) (l0_3 : List (S23)) : Option (Int) := impl_Table_cost.l0 k 0 l0_3 (l0_3.length : Int) 0
theorem impl_Table_cost.mono_l : ∀ k, (∀ y0 y1 y2 y3, LeO (impl_Table_cost.l0 k y0 y1 y2 y3) (impl_Table_cost.l0 (k + 1) y0 y1 y2 y3))
  | 0 => fun _ _ _ _ r h => by simp [impl_Table_cost.l0] at h
  | k + 1 => by
    have ih0 := impl_Table_cost.mono_l k
    · intro y0 y1 y2 y3
      unfold impl_Table_cost.l0
      repeat' first
      | (with_reducible exact ih0 _ _ _ _)
      | (with_reducible exact LeO.refl _)
      | (with_reducible exact LeO.none _)
      | (with_reducible refine LeO.ite ?_ ?_)
      | (with_reducible refine LeO.bind ?_ (fun _ => ?_))
      | exact ih0 _ _ _ _
      | exact LeO.none _
      | refine LeO.ite ?_ ?_
      | refine LeO.bind ?_ (fun _ => ?_)
theorem impl_Table_cost.mono : ∀ a0 a1 a2 a3 k, LeO (impl_Table_cost.f k a0 a1 a2 a3) (impl_Table_cost.f (k + 1) a0 a1 a2 a3) := by
  intro a0 a1 a2 a3 k
  have ih0 := impl_Table_cost.mono_l k
  unfold impl_Table_cost.f
  repeat' first
      | (with_reducible exact ih0 _ _ _ _)
      | (with_reducible exact LeO.refl _)
      | (with_reducible exact LeO.none _)
      | (with_reducible refine LeO.ite ?_ ?_)
      | (with_reducible refine LeO.bind ?_ (fun _ => ?_))
      | exact ih0 _ _ _ _
      | exact LeO.none _
      | refine LeO.ite ?_ ?_
      | refine LeO.bind ?_ (fun _ => ?_)
set_option maxHeartbeats 8000000 in
set_option maxRecDepth 100000 in
theorem impl_Table_cost.calls (k : Nat) (a0_0 : Int) (a0_1 : Int) (a0_2 : Int) (A0_3 : Option Addr) (c0_3 : Nat) (l0_3 : List (S23)) (r : Int) (w : World) (hr0_3 : Kd.C k23 w A0_3 l0_3.length l0_3) (hc0_3 : l0_3.length ≤ c0_3) (h : impl_Table_cost.f k a0_0 a0_1 a0_2 l0_3 = some r) :
    Calls Try.prog 161 #[.agg #[.int .i64 a0_0, .int .i64 a0_1, .int .i64 a0_2, .slice A0_3 l0_3.length c0_3]] w fun e w' => e = .returned (.int .i64 r) ∧ Below w.heap.size w w' := by
  have hu69 := Try.underlying69
  have hu23 := Try.underlying23
  have HR0_3 := Aside0.mk hr0_3
  have HC0_3 := Aside0.mk hc0_3
  clear hr0_3 hc0_3
  have HB := am (Below.refl w.heap.size w)
  have H : (impl_Table_cost.l0 k 0 l0_3 (l0_3.length : Int) 0) = some r := h
  clear h
  have H' := Aside0.mk H
  clear H
  go_enter Try.func161, Try.ntmps161
  go_wp2_with (first | ((with_reducible refine gate_dst (N := 1) rfl ?_); refine box_event ?hg (N := 1) ?hd (cs := #[.int .i64 a0_0, .int .i64 a0_1, .int .i64 a0_2, .slice A0_3 l0_3.length c0_3]) (t := 69) ?hr ?_; (case hd => rfl); (case hg => rfl); (case hr => first | (go_simp; done) | (go_simp; rfl)); intro gb201 hg w2 hbox hb; have BK201 := am (hbox); have GW201 := am ((by rw [hg]; exact (below_size (hq HB.out)) : w.heap.size ≤ gb201)); have GE201 := GW201; replace HB := am (below_step (hq HB.out) hb); clear hb hbox hg; have hcz3_0 : w2.cell? ⟨gb201, 0, none⟩ = some (.int .i64 a0_0) := bc BK201 0; have hcz3_1 : w2.cell? ⟨gb201, 1, none⟩ = some (.int .i64 a0_1) := bc BK201 1; have hcz3_2 : w2.cell? ⟨gb201, 2, none⟩ = some (.int .i64 a0_2) := bc BK201 2; have hcz3_3 : w2.cell? ⟨gb201, 3, none⟩ = some (.slice A0_3 l0_3.length c0_3) := bc BK201 3; have hfz3_0 := blk_frozen BK201.out 0; have hfz3_1 := blk_frozen BK201.out 1; have hfz3_2 := blk_frozen BK201.out 2; have hfz3_3 := blk_frozen BK201.out 3))
  go_loopg [3, 9] k (fun kq v3 v9 w' => ∃ (x3_1 : Int) (x9_1 : Int), v3 = .int .i64 x3_1 ∧ v9 = .int .i64 x9_1 ∧ Aside0 (impl_Table_cost.l0 kq x3_1 l0_3 (l0_3.length : Int) x9_1 = some r) ∧ Aside0 (kq ≤ k) ∧ Aside0 (w'.heap[gb201]? = some (.cells #[.int .i64 a0_0, .int .i64 a0_1, .int .i64 a0_2, (.slice A0_3 l0_3.length c0_3)] 69 (0, 0))) ∧ Aside0 (Below w.heap.size w w'))
  case atStart => exact ⟨(0), (0), (by first | rfl | (simp; done) | (simp [*]; done)), (by first | rfl | (simp; done) | (simp [*]; done)), H', ⟨Nat.le_refl _⟩, ⟨by (with_reducible repeat (first | refine blk_drewN ?_ _ | refine blk_drew ?_ | refine blk_alloc ?_ _)); exact BK201.out⟩, ⟨by repeat (with_reducible first | exact hq HB.out | refine bs ?_ GE201.out | refine us ?_)⟩⟩
  case round =>
    clear H'
    try clear c1
    try clear p2
    try clear hcz3_0
    try clear hcz3_1
    try clear hcz3_2
    try clear hcz3_3
    try clear hfz3_0
    try clear hfz3_1
    try clear hfz3_2
    try clear hfz3_3
    obtain ⟨x3_1, x9_1, rfl, rfl, HA, HK1, BK201, HB⟩ := hrel
    cases gk with
    | zero => exact absurd HA.out (by simp [impl_Table_cost.l0])
    | succ k1 =>
      have H := HA.out
      clear HA
      simp only [impl_Table_cost.l0] at H
      by_cases c4 : x9_1 < (l0_3.length : Int)
      · rw [if_pos c4] at H
        have c4b0 : decide (x9_1 < (l0_3.length : Int)) = true := decide_eq_true c4
        clear c4
        by_cases c5 : 0 ≤ x9_1
        · rw [if_pos c5] at H
          have c5b0 : decide (0 ≤ x9_1) = true := decide_eq_true c5
          clear c5
          by_cases c6 : x9_1 < (l0_3.length : Int)
          · rw [if_pos c6] at H
            have c6b0 : decide (x9_1 < (l0_3.length : Int)) = true := decide_eq_true c6
            clear c6
            replace H := Option.bind_eq_some_iff.mp H
            obtain ⟨t204, A70, H⟩ := H
            replace H : (impl_Table_cost.l0 k1 (wrap64 (x3_1 + t204)) l0_3 (l0_3.length : Int) (wrap64 (x9_1 + 1))) = some r := H
            have A7 := Aside0.mk A70
            clear A70
            have H' := Aside0.mk H
            clear H
            have p202 : 0 ≤ (x9_1 : Int) := of_decide_eq_true (by first | (with_reducible assumption) | assumption)
            have q202 : x9_1 < (l0_3.length : Int) := of_decide_eq_true (by first | (with_reducible assumption) | assumption)
            obtain ⟨ad202, e202, hx202_0, hx202_1⟩ := at_T23 HR0_3.out x9_1 p202 q202
            cases e202
            replace hx202_0 := (HB.out.cell (World.block_lt_of_cell? w _ hx202_0)).trans hx202_0
            replace hx202_1 := (HB.out.cell (World.block_lt_of_cell? w _ hx202_1)).trans hx202_1
            replace p202 := eq_true p202
            replace q202 := eq_true q202
            go_wp2_with (first | ((with_reducible refine gate_dst (N := 5) rfl ?_); refine box_event ?hg (N := 5) ?hd (cs := #[.string (⟨#[]⟩ : ByteArray), .string (⟨#[]⟩ : ByteArray)]) (t := 23) ?hr ?_; (case hd => rfl); (case hg => rfl); (case hr => first | (go_simp; done) | (go_simp; rfl)); intro gb203 hg w8 hbox hb; have BK203 := am (hbox); have GW203 := am ((by rw [hg]; exact (below_size (by repeat (with_reducible first | exact hq HB.out | refine bs ?_ GE201.out | refine us ?_))) : w.heap.size ≤ gb203)); have GE203 := GW203; have NB201_203 := am ((by rw [hg]; exact Nat.ne_of_lt (blk_lt (bq BK201.out)) : gb201 ≠ gb203)); have NB203_201 := am ((by rw [hg]; exact Nat.ne_of_gt (blk_lt (bq BK201.out)) : gb203 ≠ gb201)); replace BK201 := am (blk_below (bq BK201.out) hb); replace HB := am (below_step (by repeat (with_reducible first | exact hq HB.out | refine bs ?_ GE201.out | refine us ?_)) hb); clear hb hbox hg; have hnb9 := NB203_201.out; have hnc9 := NB201_203.out; have hcz10_0 : w8.cell? ⟨gb203, 0, none⟩ = some (.string (⟨#[]⟩ : ByteArray)) := bc BK203 0; have hcz10_1 : w8.cell? ⟨gb203, 1, none⟩ = some (.string (⟨#[]⟩ : ByteArray)) := bc BK203 1; have hfz10_0 := blk_frozen BK203.out 0; have hfz10_1 := blk_frozen BK203.out 1) | ((with_reducible refine gate_callee (f := 103) rfl ?_); refine goesL_ (some 15) rfl rfl Try.func103 (by kernel_rfl) rfl #[.agg #[.string ((rd_T23 l0_3 x9_1).f0), .string ((rd_T23 l0_3 x9_1).f1)]] rfl (by (try simp only [List.map_toArray, List.map_cons, List.map_nil]); first | done | rfl | (simp only [List.length_drop, List.length_take]; rfl)) ?_; (with_reducible refine (impl_costOf.calls ((rd_T23 l0_3 x9_1).f0) ((rd_T23 l0_3 x9_1).f1) t204 _ A7.out).mono ?_); rintro e w11 ⟨rfl, hb⟩; refine ⟨_, rfl, ?_⟩; replace BK201 := am (blk_below (g := gb201) (o := .cells #[.int .i64 a0_0, .int .i64 a0_1, .int .i64 a0_2, .slice (some ad202) l0_3.length c0_3] 69 (0, 0)) (bu (blk_far (bu (blk_far (bq BK201.out) NB201_203.out _)) NB201_203.out _)) hb); replace BK203 := am (blk_below (g := gb203) (o := .cells #[.string ((rd_T23 l0_3 x9_1).f0), .string ((rd_T23 l0_3 x9_1).f1)] 23 (0, 0)) (by (with_reducible repeat (first | refine blk_drewN ?_ _ | refine blk_drew ?_ | refine blk_alloc ?_ _)); refine blk_put (cs := #[.string ((rd_T23 l0_3 x9_1).f0), .string (⟨#[]⟩ : ByteArray)]) ?_ 1 _ rfl; (with_reducible repeat (first | refine blk_drewN ?_ _ | refine blk_drew ?_ | refine blk_alloc ?_ _)); refine blk_put (cs := #[.string (⟨#[]⟩ : ByteArray), .string (⟨#[]⟩ : ByteArray)]) ?_ 0 _ rfl; (with_reducible repeat (first | refine blk_drewN ?_ _ | refine blk_drew ?_ | refine blk_alloc ?_ _)); exact BK203.out) hb); replace HB := am (below_step (by repeat (with_reducible first | exact hq HB.out | refine bs ?_ GE201.out | refine bs ?_ GE203.out | refine us ?_)) hb); (try clear hb); (try clear hb2); (try clear hk); (try clear hi)))
            go_roundg k1
            case measure => have := HK1.out; omega
            case rel => exact ⟨(wrap64 (x3_1 + t204)), (wrap64 (x9_1 + 1)), (by first | rfl | (simp; done) | (simp [*]; done)), (by first | rfl | (simp; done) | (simp [*]; done)), H', ⟨by have := HK1.out; omega⟩, ⟨by (with_reducible repeat (first | refine blk_drewN ?_ _ | refine blk_drew ?_ | refine blk_alloc ?_ _)); exact BK201.out⟩, ⟨by repeat (with_reducible first | exact hq HB.out | refine bs ?_ GE201.out | refine bs ?_ GE203.out | refine us ?_)⟩⟩
          · rw [if_neg c6] at H
            exact absurd H (by simp)
        · rw [if_neg c5] at H
          exact absurd H (by simp)
      · rw [if_neg c4] at H
        have c4b0 : decide (x9_1 < (l0_3.length : Int)) = false := decide_eq_false c4
        clear c4
        obtain rfl := Option.some.inj H
        go_wp2
        go_ret
        exact ⟨by first | rfl | (simp [errW_none, errW_some] <;> rfl) | (simp [*, errW_none, errW_some] <;> rfl), by repeat (with_reducible first | exact hq HB.out | refine bs ?_ GE201.out | refine us ?_)⟩

/-! ### impl_Table_fitted: function 109 -/
def impl_Table_fitted.l0 : Nat → Int → List (S23) → Int → Int → Int → Int → List (S23) → Option (Int × Int × Int × (List (S23)))
  | 0, _, _, _, _, _, _, _ => none
  | k + 1, x1, x5, x6, x206000, x206001, x206002, x206003 => if x6 > (wrap64 (x206001 - x1)) then (if 0 < (x5.length : Int) then ((impl_costOf.f ((rd_T23 x5 0).f0) ((rd_T23 x5 0).f1)).bind fun t209 => (if 1 ≤ (x5.length : Int) then (impl_Table_fitted.l0 k x1 (x5.drop 1) (wrap64 (x6 - t209)) x206000 x206001 x206002 x206003) else (none))) else (none)) else ((some (([] : List (S23)) : List (S23))).bind fun y215 => (if y215.length + x5.length < 4398046511104 then (some (x206000, x206001, x206002, (y215 ++ x5))) else (none)))
def impl_Table_fitted.f (k : Nat) (a0_0 : Int) (a0_1 : Int) (a0_2 : Int) (l0_3 : List (S23)) (a1 : Int) : Option (Int × Int × Int × (List (S23))) := (impl_Table_cost.f k a0_0 a0_1 a0_2 l0_3).bind fun t207 => (impl_Table_fitted.l0 k a1 l0_3 t207 a0_0 a0_1 a0_2 l0_3)
theorem impl_Table_fitted.mono_l : ∀ k, (∀ y0 y1 y2 y3 y4 y5 y6, LeO (impl_Table_fitted.l0 k y0 y1 y2 y3 y4 y5 y6) (impl_Table_fitted.l0 (k + 1) y0 y1 y2 y3 y4 y5 y6))
  | 0 => fun _ _ _ _ _ _ _ r h => by simp [impl_Table_fitted.l0] at h
  | k + 1 => by
    have ih0 := impl_Table_fitted.mono_l k
    · intro y0 y1 y2 y3 y4 y5 y6
      unfold impl_Table_fitted.l0
      repeat' first
      | (with_reducible exact ih0 _ _ _ _ _ _ _)
      | (with_reducible exact impl_Table_cost.mono _ _ _ _ _)
      | (with_reducible exact LeO.refl _)
      | (with_reducible exact LeO.none _)
      | (with_reducible refine LeO.ite ?_ ?_)
      | (with_reducible refine LeO.bind ?_ (fun _ => ?_))
      | exact ih0 _ _ _ _ _ _ _
      | exact impl_Table_cost.mono _ _ _ _ _
      | exact LeO.none _
      | refine LeO.ite ?_ ?_
      | refine LeO.bind ?_ (fun _ => ?_)
theorem impl_Table_fitted.mono : ∀ a0 a1 a2 a3 a4 k, LeO (impl_Table_fitted.f k a0 a1 a2 a3 a4) (impl_Table_fitted.f (k + 1) a0 a1 a2 a3 a4) := by
  intro a0 a1 a2 a3 a4 k
  have ih0 := impl_Table_fitted.mono_l k
  unfold impl_Table_fitted.f
  repeat' first
      | (with_reducible exact ih0 _ _ _ _ _ _ _)
      | (with_reducible exact impl_Table_cost.mono _ _ _ _ _)
      | (with_reducible exact LeO.refl _)
      | (with_reducible exact LeO.none _)
      | (with_reducible refine LeO.ite ?_ ?_)
      | (with_reducible refine LeO.bind ?_ (fun _ => ?_))
      | exact ih0 _ _ _ _ _ _ _
      | exact impl_Table_cost.mono _ _ _ _ _
      | exact LeO.none _
      | refine LeO.ite ?_ ?_
      | refine LeO.bind ?_ (fun _ => ?_)
set_option maxHeartbeats 8000000 in
set_option maxRecDepth 100000 in
theorem impl_Table_fitted.calls (k : Nat) (a0_0 : Int) (a0_1 : Int) (a0_2 : Int) (P0_3_ : Nat → Prop) (A0_3 : Option Addr) (c0_3 : Nat) (l0_3 : List (S23)) (a1 : Int) (r1 : Int) (r2 : Int) (r3 : Int) (r4 : List (S23)) (w : World) (hs0_3 : Kd.V k23 23 w w.heap.size (fun k_ => P0_3_ k_) (.slice A0_3 l0_3.length c0_3) l0_3) (h : impl_Table_fitted.f k a0_0 a0_1 a0_2 l0_3 a1 = some (r1, r2, r3, r4)) :
    Calls Try.prog 109 #[.agg #[.int .i64 a0_0, .int .i64 a0_1, .int .i64 a0_2, .slice A0_3 l0_3.length c0_3], .int .i64 a1] w fun e w' => ∃ v3_ : Value, e = .returned (.agg #[.int .i64 r1, .int .i64 r2, .int .i64 r3, v3_]) ∧ Kd.R k23 23 w' w.heap.size (fun k_ => (w.heap.size ≤ k_)) v3_ r4 ∧ Below w.heap.size w w' := by
  have hu69 := Try.underlying69
  have hu23 := Try.underlying23
  have HO0_3 := am (show Kd.V k23 23 w w.heap.size (fun k_ => (P0_3_ k_ ∨ w.heap.size ≤ k_)) (.slice A0_3 l0_3.length c0_3) l0_3 from Kd.V_mono hs0_3 (fun k_ hk => .inl hk))
  have HB := am (Below.refl w.heap.size w)
  have H : ((impl_Table_cost.f k a0_0 a0_1 a0_2 l0_3).bind fun t207 => (impl_Table_fitted.l0 k a1 l0_3 t207 a0_0 a0_1 a0_2 l0_3)) = some (r1, r2, r3, r4) := h
  clear h
  replace H := Option.bind_eq_some_iff.mp H
  obtain ⟨t207, A30, H⟩ := H
  replace H : (impl_Table_fitted.l0 k a1 l0_3 t207 a0_0 a0_1 a0_2 l0_3) = some (r1, r2, r3, r4) := H
  have A3 := Aside0.mk A30
  clear A30
  have H' := Aside0.mk H
  clear H
  go_enter Try.func109, Try.ntmps109
  go_wp2_with (first | ((with_reducible refine gate_dst (N := 2) rfl ?_); refine box_event ?hg (N := 2) ?hd (cs := #[.int .i64 a0_0, .int .i64 a0_1, .int .i64 a0_2, .slice A0_3 l0_3.length c0_3]) (t := 69) ?hr ?_; (case hd => rfl); (case hg => rfl); (case hr => first | (go_simp; done) | (go_simp; rfl)); intro gb205 hg w4 hbox hb; have BK205 := am (hbox); have GW205 := am ((by rw [hg]; exact (below_size (hq HB.out)) : w.heap.size ≤ gb205)); have GE205 := GW205; replace HO0_3 := am (Kd.V_below (Kd.V_elderB (by (with_reducible repeat (first | apply Kd.V_alloc | apply Kd.V_drewN | apply Kd.V_drew)); exact HO0_3.out) gb205 (Nat.le_of_eq hg.symm)) hb); replace HB := am (below_step (hq HB.out) hb); clear hb hbox hg) | ((with_reducible refine gate_dst (N := 4) rfl ?_); refine box_event ?hg (N := 4) ?hd (cs := #[.int .i64 0, .int .i64 0, .int .i64 0, .slice none 0 0]) (t := 69) ?hr ?_; (case hd => rfl); (case hg => rfl); (case hr => first | (go_simp; done) | (go_simp; rfl)); intro gb206 hg w5 hbox hb; have BK206 := am (hbox); have GW206 := am ((by rw [hg]; exact (below_size (by repeat (with_reducible first | exact hq HB.out | refine bs ?_ GE205.out | refine us ?_))) : w.heap.size ≤ gb206)); have GE206 := GW206; have NB205_206 := am ((by rw [hg]; exact Nat.ne_of_lt (blk_lt (bq BK205.out)) : gb205 ≠ gb206)); have NB206_205 := am ((by rw [hg]; exact Nat.ne_of_gt (blk_lt (bq BK205.out)) : gb206 ≠ gb205)); replace HO0_3 := am (Kd.V_below (Kd.V_elderB (by (with_reducible repeat (first | apply Kd.V_alloc | apply Kd.V_drewN | apply Kd.V_drew)); exact HO0_3.out) gb206 (Nat.le_of_eq hg.symm)) hb); replace BK205 := am (blk_below (bq BK205.out) hb); replace HB := am (below_step (by repeat (with_reducible first | exact hq HB.out | refine bs ?_ GE205.out | refine us ?_)) hb); clear hb hbox hg; have hnb6 := NB205_206.out; have hnc6 := NB206_205.out; have hcz7_0 : w5.cell? ⟨gb205, 0, none⟩ = some (.int .i64 a0_0) := bc BK205 0; have hcz7_1 : w5.cell? ⟨gb205, 1, none⟩ = some (.int .i64 a0_1) := bc BK205 1; have hcz7_2 : w5.cell? ⟨gb205, 2, none⟩ = some (.int .i64 a0_2) := bc BK205 2; have hcz7_3 : w5.cell? ⟨gb205, 3, none⟩ = some (.slice A0_3 l0_3.length c0_3) := bc BK205 3; have hfz7_0 := blk_frozen BK205.out 0; have hfz7_1 := blk_frozen BK205.out 1; have hfz7_2 := blk_frozen BK205.out 2; have hfz7_3 := blk_frozen BK205.out 3) | ((with_reducible refine gate_callee (f := 161) rfl ?_); refine goesL_ (some 10) rfl rfl Try.func161 (by kernel_rfl) rfl #[.agg #[.int .i64 a0_0, .int .i64 a0_1, .int .i64 a0_2, .slice A0_3 l0_3.length c0_3]] rfl (by (try simp only [List.map_toArray, List.map_cons, List.map_nil]); first | done | rfl | (simp only [List.length_drop, List.length_take]; rfl)) ?_; (with_reducible refine (impl_Table_cost.calls k a0_0 a0_1 a0_2 _ _ l0_3 t207 _ ?side1 ?side2 A3.out).mono ?_); (case side1 => repeat (first | exact (Kd.V_reads' HO0_3.out).2.2 | (with_reducible refine Kd.C_alloc ?_ _) | (with_reducible refine Kd.C_drewN ?_ _) | (with_reducible refine Kd.C_drew ?_))); (case side2 => exact (Kd.V_reads' HO0_3.out).2.1); rintro e w8 ⟨rfl, hb⟩; refine ⟨_, rfl, ?_⟩; replace HO0_3 := am (Kd.V_below (by (with_reducible repeat (first | apply Kd.V_alloc | apply Kd.V_drewN | apply Kd.V_drew)); exact HO0_3.out) hb); replace BK205 := am (blk_below (bq BK205.out) hb); replace BK206 := am (blk_below (bq BK206.out) hb); replace HB := am (below_step (by repeat (with_reducible first | exact hq HB.out | refine bs ?_ GE205.out | refine bs ?_ GE206.out | refine us ?_)) hb); (try clear hb); (try clear hb2); (try clear hk); (try clear hi)))
  go_loopg [5, 6] k (fun kq v5 v6 w' => ∃ (x5_1 : List (S23)) (x6_1 : Int), v6 = .int .i64 x6_1 ∧ Aside0 (impl_Table_fitted.l0 kq a1 x5_1 x6_1 a0_0 a0_1 a0_2 l0_3 = some (r1, r2, r3, r4)) ∧ Aside0 (kq ≤ k) ∧ Aside0 (Kd.V k23 23 w' w.heap.size (fun k_ => (P0_3_ k_ ∨ w.heap.size ≤ k_) ∧ k_ ≠ gb205 ∧ k_ ≠ gb206) v5 x5_1) ∧ Aside0 (Kd.V k23 23 w' w.heap.size (fun k_ => (P0_3_ k_ ∨ w.heap.size ≤ k_) ∧ k_ ≠ gb205 ∧ k_ ≠ gb206) (.slice A0_3 l0_3.length c0_3) l0_3) ∧ Aside0 (w'.heap[gb205]? = some (.cells #[.int .i64 a0_0, .int .i64 a0_1, .int .i64 a0_2, (.slice A0_3 l0_3.length c0_3)] 69 (0, 0))) ∧ Aside0 (w'.heap[gb206]? = some (.cells #[.int .i64 0, .int .i64 0, .int .i64 0, (.slice none 0 0)] 69 (0, 0))) ∧ Aside0 (Below w.heap.size w w'))
  case atStart => exact ⟨(l0_3), (t207), (by first | rfl | (simp; done) | (simp [*]; done)), H', ⟨Nat.le_refl _⟩, ⟨by (with_reducible repeat (first | apply Kd.V_alloc | apply Kd.V_drewN | apply Kd.V_drew)); exact Kd.V_mono HO0_3.out (fun _ hk => ⟨hk.1.1, ⟨hk.1.2, hk.2⟩⟩)⟩, ⟨by (with_reducible repeat (first | apply Kd.V_alloc | apply Kd.V_drewN | apply Kd.V_drew)); exact Kd.V_mono HO0_3.out (fun _ hk => ⟨hk.1.1, ⟨hk.1.2, hk.2⟩⟩)⟩, ⟨by (with_reducible repeat (first | refine blk_drewN ?_ _ | refine blk_drew ?_ | refine blk_alloc ?_ _)); exact BK205.out⟩, ⟨by (with_reducible repeat (first | refine blk_drewN ?_ _ | refine blk_drew ?_ | refine blk_alloc ?_ _)); exact BK206.out⟩, ⟨by repeat (with_reducible first | exact hq HB.out | refine bs ?_ GE205.out | refine bs ?_ GE206.out | refine us ?_)⟩⟩
  case round =>
    clear H'
    try clear c1
    try clear p2
    try clear c6
    try clear hcz7_0
    try clear hcz7_1
    try clear hcz7_2
    try clear hcz7_3
    try clear hfz7_0
    try clear hfz7_1
    try clear hfz7_2
    try clear hfz7_3
    obtain ⟨x5_1, x6_1, rfl, HA, HK1, HO_5, HO_206003, BK205, BK206, HB⟩ := hrel
    cases gk with
    | zero => exact absurd HA.out (by simp [impl_Table_fitted.l0])
    | succ k1 =>
      have H := HA.out
      clear HA
      simp only [impl_Table_fitted.l0] at H
      by_cases c9 : x6_1 > (wrap64 (a0_1 - a1))
      · rw [if_pos c9] at H
        have c9b0 : decide ((wrap64 (a0_1 - a1)) < x6_1) = true := decide_eq_true c9
        clear c9
        by_cases c10 : 0 < (x5_1.length : Int)
        · rw [if_pos c10] at H
          have c10b0 : decide (0 < (x5_1.length : Int)) = true := decide_eq_true c10
          have c10b1 : decide (0 < x5_1.length) = true := decide_eq_true (by omega)
          clear c10
          replace H := Option.bind_eq_some_iff.mp H
          obtain ⟨t209, A110, H⟩ := H
          replace H : (if 1 ≤ (x5_1.length : Int) then (impl_Table_fitted.l0 k1 a1 (x5_1.drop 1) (wrap64 (x6_1 - t209)) a0_0 a0_1 a0_2 l0_3) else (none)) = some (r1, r2, r3, r4) := H
          have A11 := Aside0.mk A110
          clear A110
          by_cases c12 : 1 ≤ (x5_1.length : Int)
          · rw [if_pos c12] at H
            have c12b0 := eq_true c12
            have c12b1 : decide (1 ≤ (x5_1.length : Int)) = true := decide_eq_true c12
            clear c12
            obtain ⟨y210, hy210⟩ : ∃ y_ : List (S23), y_ = (x5_1.drop 1) := ⟨_, rfl⟩
            replace H : (impl_Table_fitted.l0 k1 a1 y210 (wrap64 (x6_1 - t209)) a0_0 a0_1 a0_2 l0_3) = some (r1, r2, r3, r4) := by first | (rw [hy210]; with_reducible exact H) | (have H2_ := (Option.bind_some _ _).symm.trans H; rw [hy210]; with_reducible exact H2_) | (have H2_ := (Option.bind_some _ _).symm.trans H; with_reducible exact H2_) | with_reducible exact H | (rw [hy210]; exact H) | exact H
            have Ny210 := Aside0.mk hy210
            clear hy210
            have H' := Aside0.mk H
            clear H
            have hnb13 := NB205_206.out
            have hnc13 := NB206_205.out
            have hcz14_0 : wr.cell? ⟨gb205, 0, none⟩ = some (.int .i64 a0_0) := bc BK205 0
            have hcz14_1 : wr.cell? ⟨gb205, 1, none⟩ = some (.int .i64 a0_1) := bc BK205 1
            have hcz14_2 : wr.cell? ⟨gb205, 2, none⟩ = some (.int .i64 a0_2) := bc BK205 2
            have hcz14_3 : wr.cell? ⟨gb205, 3, none⟩ = some (.slice A0_3 l0_3.length c0_3) := bc BK205 3
            have hfz14_0 := blk_frozen BK205.out 0
            have hfz14_1 := blk_frozen BK205.out 1
            have hfz14_2 := blk_frozen BK205.out 2
            have hfz14_3 := blk_frozen BK205.out 3
            obtain ⟨Ao15, co15, eo15⟩ := Kd.V_slice HO_5.out
            subst eo15
            have p208 : 0 ≤ (0 : Int) := (by omega)
            have q208 : 0 < (x5_1.length : Int) := of_decide_eq_true (by first | (with_reducible assumption) | assumption)
            obtain ⟨ad208, e208, hx208_0, hx208_1⟩ := at_T23 (Kd.V_reads' HO_5.out).2.2 0 p208 q208
            cases e208
            have qi208 : (0 < x5_1.length) = True := eq_true (by omega)
            (try rw [show ((0 : Int)).toNat = 0 from rfl] at hx208_0)
            (try rw [show 0 * 2 = 0 from rfl] at hx208_0)
            (try rw [Addr.add_zero'] at hx208_0)
            (try rw [show ((0 : Int)).toNat = 0 from rfl] at hx208_1)
            (try rw [show 0 * 2 = 0 from rfl] at hx208_1)
            (try rw [Addr.add_zero'] at hx208_1)
            replace p208 := eq_true p208
            replace q208 := eq_true q208
            go_wp2_with (first | ((with_reducible refine gate_callee (f := 103) rfl ?_); refine goesL_ (some 23) rfl rfl Try.func103 (by kernel_rfl) rfl #[.agg #[.string ((rd_T23 x5_1 0).f0), .string ((rd_T23 x5_1 0).f1)]] rfl (by (try simp only [List.map_toArray, List.map_cons, List.map_nil]); first | done | rfl | (simp only [List.length_drop, List.length_take]; rfl)) ?_; (with_reducible refine (impl_costOf.calls ((rd_T23 x5_1 0).f0) ((rd_T23 x5_1 0).f1) t209 _ A11.out).mono ?_); rintro e w16 ⟨rfl, hb⟩; refine ⟨_, rfl, ?_⟩; replace HO_5 := am (Kd.V_below (by (with_reducible repeat (first | apply Kd.V_alloc | apply Kd.V_drewN | apply Kd.V_drew)); exact HO_5.out) hb); replace HO_206003 := am (Kd.V_below (by (with_reducible repeat (first | apply Kd.V_alloc | apply Kd.V_drewN | apply Kd.V_drew)); exact HO_206003.out) hb); replace BK205 := am (blk_below (bq BK205.out) hb); replace BK206 := am (blk_below (bq BK206.out) hb); replace HB := am (below_step (by repeat (with_reducible first | exact hq HB.out | refine bs ?_ GE205.out | refine bs ?_ GE206.out | refine us ?_)) hb); (try clear hb); (try clear hb2); (try clear hk); (try clear hi); have q17 : (1 : Int) ≤ ((x5_1.length : Int) : Int) := of_decide_eq_true (by first | (with_reducible assumption) | assumption); obtain ⟨i017, hi017, _, hsz17, _⟩ := info_parts info23; have hroom17 : x5_1.length ≤ co15 := (Kd.V_reads' HO_5.out).2.1; have hC17 : Kd.F k23 _ _ (some ad208) x5_1.length x5_1 := (Kd.V_at (base := w.heap.size) HO_5.out).2.2; have hcut17 := cut_from (P := Try.prog) 67 23 .i64 Try.underlying67 hi017 2 hsz17 (some ad208) x5_1.length co15 1 (by omega) q17; have hr17 := Kd.F_cut (m := (1 : Int).toNat) (c := co15) hC17 (by omega) hroom17; obtain ⟨A17, hA17⟩ : ∃ A1, A1 = (if co15 = (1 : Int).toNat then (some ad208) else ((some ad208) : Option Addr).map (·.add ((1 : Int).toNat * 2))) := ⟨_, rfl⟩; obtain ⟨c17, hc17⟩ : ∃ c1, c1 = co15 - (1 : Int).toNat := ⟨_, rfl⟩; have hy17 : y210.length = x5_1.length - (1 : Int).toNat := (by rw [Ny210.out, List.length_drop] <;> omega); rw [show (x5_1).drop (1 : Int).toNat = y210 from Ny210.out.symm] at hr17; replace hr17 : Kd.F k23 _ _ A17 y210.length y210 := (by rw [hA17]; exact hr17); rw [← hy17, ← hA17, ← hc17] at hcut17; have HO214 := am (show Kd.V k23 23 _ w.heap.size _ (.slice A17 y210.length c17) y210 from Kd.V_mk (by rw [hy17, hc17]; exact Nat.sub_le_sub_right hroom17 _) hr17); have HC214 := am (show y210.length ≤ c17 from by rw [hy17, hc17]; exact Nat.sub_le_sub_right hroom17 _); clear hr17 hC17 hroom17 hi017 hsz17 hc17; have KY17 := Aside0.mk hy17; have KA17 := Aside0.mk hA17; clear hy17 hA17; replace q17 := eq_true q17))
            go_roundg k1
            case measure => have := HK1.out; omega
            case rel => exact ⟨(y210), (wrap64 (x6_1 - t209)), (by first | rfl | (simp; done) | (simp [*]; done)), H', ⟨by have := HK1.out; omega⟩, ⟨by (with_reducible repeat (first | apply Kd.V_alloc | apply Kd.V_drewN | apply Kd.V_drew)); exact HO214.out⟩, ⟨by (with_reducible repeat (first | apply Kd.V_alloc | apply Kd.V_drewN | apply Kd.V_drew)); exact HO_206003.out⟩, ⟨by (with_reducible repeat (first | refine blk_drewN ?_ _ | refine blk_drew ?_ | refine blk_alloc ?_ _)); exact BK205.out⟩, ⟨by (with_reducible repeat (first | refine blk_drewN ?_ _ | refine blk_drew ?_ | refine blk_alloc ?_ _)); exact BK206.out⟩, ⟨by repeat (with_reducible first | exact hq HB.out | refine bs ?_ GE205.out | refine bs ?_ GE206.out | refine us ?_)⟩⟩
          · rw [if_neg c12] at H
            exact absurd H (by simp)
        · rw [if_neg c10] at H
          exact absurd H (by simp)
      · rw [if_neg c9] at H
        have c9b0 : decide ((wrap64 (a0_1 - a1)) < x6_1) = false := decide_eq_false c9
        clear c9
        obtain ⟨y215, hy215⟩ : ∃ y_ : List (S23), y_ = (([] : List (S23))) := ⟨_, rfl⟩
        replace H : (if y215.length + x5_1.length < 4398046511104 then (some (a0_0, a0_1, a0_2, (y215 ++ x5_1))) else (none)) = some (r1, r2, r3, r4) := by first | (rw [hy215]; with_reducible exact H) | (have H2_ := (Option.bind_some _ _).symm.trans H; rw [hy215]; with_reducible exact H2_) | (have H2_ := (Option.bind_some _ _).symm.trans H; with_reducible exact H2_) | with_reducible exact H | (rw [hy215]; exact H) | exact H
        have Ny215 := Aside0.mk hy215
        clear hy215
        by_cases c18 : y215.length + x5_1.length < 4398046511104
        · rw [if_pos c18] at H
          have LMc18 := Aside0.mk c18
          clear c18
          obtain ⟨y218, hy218⟩ : ∃ y_ : List (S23), y_ = (y215 ++ x5_1) := ⟨_, rfl⟩
          replace H : (some (a0_0, a0_1, a0_2, y218)) = some (r1, r2, r3, r4) := by first | (rw [hy218]; with_reducible exact H) | (have H2_ := (Option.bind_some _ _).symm.trans H; rw [hy218]; with_reducible exact H2_) | (have H2_ := (Option.bind_some _ _).symm.trans H; with_reducible exact H2_) | with_reducible exact H | (rw [hy218]; exact H) | exact H
          have Ny218 := Aside0.mk hy218
          clear hy218
          simp only [Option.some.injEq, Prod.mk.injEq] at H
          obtain ⟨rfl, rfl, rfl, rfl⟩ := H
          have hnb19 := NB205_206.out
          have hnc19 := NB206_205.out
          have hcz20_0 : wr.cell? ⟨gb205, 0, none⟩ = some (.int .i64 a0_0) := bc BK205 0
          have hcz20_1 : wr.cell? ⟨gb205, 1, none⟩ = some (.int .i64 a0_1) := bc BK205 1
          have hcz20_2 : wr.cell? ⟨gb205, 2, none⟩ = some (.int .i64 a0_2) := bc BK205 2
          have hcz20_3 : wr.cell? ⟨gb205, 3, none⟩ = some (.slice A0_3 l0_3.length c0_3) := bc BK205 3
          have hfz20_0 := blk_frozen BK205.out 0
          have hfz20_1 := blk_frozen BK205.out 1
          have hfz20_2 := blk_frozen BK205.out 2
          have hfz20_3 := blk_frozen BK205.out 3
          go_wp2_with (first | ((with_reducible refine gate_dst (N := 25) rfl ?_); refine Kd.R_lit k23 _ 23 ?hg (N := 25) ?hd (xs := ([] : List (S23))) (inner := []) (ok := fun _ => True) (okp := fun _ => True) ?hr ?hp (fun _ hk => hk) trivial (Below.refl _ _) (Nat.le_refl _) (by simp) ?_; (case hd => rfl); (case hg => rfl); (case hr => first | (go_simp; done) | (go_simp; rfl)); (case hp => exact (Reps.none _ _)); intro v216 w21 ho22 hb hg_ hnew_; clear hg_ hnew_; (first | rw [← Ny215.out] at ho22 | (simp only [Int.reduceToNat] at ho22; rw [← Ny215.out] at ho22)); have HO217 := am (Kd.R_lower (Kd.R_newM (M := fun k_ => (w.heap.size ≤ k_)) ho22 (below_size (by repeat (with_reducible first | exact hq HB.out | refine bs ?_ GE205.out | refine bs ?_ GE206.out | refine us ?_))) (fun k_ h_ => h_)) (below_size (by repeat (with_reducible first | exact hq HB.out | refine bs ?_ GE205.out | refine bs ?_ GE206.out | refine us ?_)))); replace HO_5 := am (Kd.V_elder' (by (with_reducible repeat (first | apply Kd.V_alloc | apply Kd.V_drewN | apply Kd.V_drew)); exact HO_5.out) (Kd.R_base ho22) hb); replace HO_206003 := am (Kd.V_elder' (by (with_reducible repeat (first | apply Kd.V_alloc | apply Kd.V_drewN | apply Kd.V_drew)); exact HO_206003.out) (Kd.R_base ho22) hb); replace BK205 := am (blk_below (bq BK205.out) hb); replace BK206 := am (blk_below (bq BK206.out) hb); replace HB := am (below_step (by repeat (with_reducible first | exact hq HB.out | refine bs ?_ GE205.out | refine bs ?_ GE206.out | refine us ?_)) hb); clear hb ho22; obtain ⟨Ao24, co24, eo24⟩ := Kd.V_slice HO_5.out; subst eo24) | ((with_reducible refine gate_builtin (b := .append) (xs := #[.tmp 25, .tmp 26]) rfl ?_); at_builtin; refine Kd.R_append_rows k23 (w0 := w) w.heap.size rfl (.tmp 25) (.tmp 26) 67 23 (.agg #[(.string ⟨#[]⟩), (.string ⟨#[]⟩)]) 32 rfl Try.underlying67 info23 rfl (by decide) (by omega) v216 y215 x5_1 _ _ _ (fun k_ => (w.heap.size ≤ k_)) (fun _ => False) rfl rfl ?aO ?aR (fun _ _ h => h) (fun _ h => h.elim) ?aF ?aB ?aS ?aL ?_; (case aR => repeat (first | exact (Kd.V_reads' HO_5.out).2.2 | (with_reducible refine Kd.C_alloc ?_ _) | (with_reducible refine Kd.C_drewN ?_ _) | (with_reducible refine Kd.C_drew ?_))); (case aB => exact (by repeat (with_reducible first | exact hq HB.out | refine bs ?_ GE205.out | refine bs ?_ GE206.out | refine us ?_))); (case aF => exact (fun k_ hk => (Nat.le_trans (below_size (by repeat (with_reducible first | exact hq HB.out | refine bs ?_ GE205.out | refine bs ?_ GE206.out | refine us ?_))) hk))); (case aO => exact (rq (Kd.R_mono HO217.out (fun _ hk => hk.1)))); (case aS => exact (below_size (by repeat (with_reducible first | exact hq HB.out | refine bs ?_ GE205.out | refine bs ?_ GE206.out | refine us ?_)))); (case aL => have := LMc18.out; omega); intro v219 w23 ho hb hg hat; rw [← Ny218.out] at ho; have n0_ := am (Kd.V_afterv (ok := (fun k_ => (P0_3_ k_ ∨ w.heap.size ≤ k_) ∧ k_ ≠ gb205 ∧ k_ ≠ gb206)) (by (with_reducible repeat (first | apply Kd.V_alloc | apply Kd.V_drewN | apply Kd.V_drew)); exact HO_5.out) hg hat); have n1_ := am (Kd.V_afterv (ok := (fun k_ => (P0_3_ k_ ∨ w.heap.size ≤ k_) ∧ k_ ≠ gb205 ∧ k_ ≠ gb206)) (by (with_reducible repeat (first | apply Kd.V_alloc | apply Kd.V_drewN | apply Kd.V_drew)); exact HO_206003.out) hg hat); have n2_ := am (blk_grown (g := gb205) (o := .cells #[.int .i64 a0_0, .int .i64 a0_1, .int .i64 a0_2, .slice A0_3 l0_3.length c0_3] 69 (0, 0)) (bq BK205.out) hg (Kd.R_ne HO217.out BK205.out (by decide))); have n3_ := am (blk_grown (g := gb206) (o := .cells #[.int .i64 0, .int .i64 0, .int .i64 0, .slice none 0 0] 69 (0, 0)) (bq BK206.out) hg (Kd.R_ne HO217.out BK206.out (by decide))); have n4_ := am (hb); have n5_ := am (ho); clear HO_5; clear HO_206003; clear BK205; clear BK206; clear HB; clear HO217; have HO_5 := n0_; have HO_206003 := n1_; have BK205 := n2_; have BK206 := n3_; have HB := n4_; have HO220 := n5_; clear n0_ n1_ n2_ n3_ n4_ n5_; clear ho hb hg hat; obtain ⟨Ao25, co25, eo25⟩ := Kd.R_slice HO220.out; subst eo25; have hcz26_0 : w23.cell? ⟨gb205, 0, none⟩ = some (.int .i64 a0_0) := bc BK205 0; have hcz26_1 : w23.cell? ⟨gb205, 1, none⟩ = some (.int .i64 a0_1) := bc BK205 1; have hcz26_2 : w23.cell? ⟨gb205, 2, none⟩ = some (.int .i64 a0_2) := bc BK205 2; have hcz26_3 : w23.cell? ⟨gb205, 3, none⟩ = some (.slice A0_3 l0_3.length c0_3) := bc BK205 3; have hfz26_0 := blk_frozen BK205.out 0; have hfz26_1 := blk_frozen BK205.out 1; have hfz26_2 := blk_frozen BK205.out 2; have hfz26_3 := blk_frozen BK205.out 3; have hcz27_0 : w23.cell? ⟨gb206, 0, none⟩ = some (.int .i64 0) := bc BK206 0; have hcz27_1 : w23.cell? ⟨gb206, 1, none⟩ = some (.int .i64 0) := bc BK206 1; have hcz27_2 : w23.cell? ⟨gb206, 2, none⟩ = some (.int .i64 0) := bc BK206 2; have hcz27_3 : w23.cell? ⟨gb206, 3, none⟩ = some (.slice none 0 0) := bc BK206 3; have hfz27_0 := blk_frozen BK206.out 0; have hfz27_1 := blk_frozen BK206.out 1; have hfz27_2 := blk_frozen BK206.out 2; have hfz27_3 := blk_frozen BK206.out 3))
          refine bodyPost_ret (results_cell_row rfl _ _ gb206 69 #[.int .i64 a0_0, .int .i64 a0_1, .int .i64 a0_2, .slice Ao25 y218.length co25] (0, 0) _ rfl (bu (blk_put (cs := #[.int .i64 a0_0, .int .i64 a0_1, .int .i64 a0_2, .slice none 0 0]) (bu (blk_put (cs := #[.int .i64 a0_0, .int .i64 a0_1, .int .i64 0, .slice none 0 0]) (bu (blk_put (cs := #[.int .i64 a0_0, .int .i64 0, .int .i64 0, .slice none 0 0]) (bu (blk_put (cs := #[.int .i64 0, .int .i64 0, .int .i64 0, .slice none 0 0]) (bu (blk_far (bq BK206.out) NB206_205.out _)) 0 _ rfl)) 1 _ rfl)) 2 _ rfl)) 3 _ rfl)) Try.underlying69 rfl (by kernel_rfl)) rfl ?_
          exact ⟨_, by first | rfl | (simp [errW_none, errW_some] <;> rfl) | (simp [*, errW_none, errW_some] <;> rfl), by (with_reducible repeat (first | apply Kd.R_alloc | apply Kd.R_drewN | apply Kd.R_drew)); exact Kd.R_mono (Kd.R_far (p := ⟨gb206, 3, none⟩) (Kd.R_far (p := ⟨gb206, 2, none⟩) (Kd.R_far (p := ⟨gb206, 1, none⟩) (Kd.R_far (p := ⟨gb206, 0, none⟩) (Kd.R_far (p := ⟨gb205, 3, none⟩) (Kd.R_types (Kd.R_types HO220.out BK205.out (by decide)) BK206.out (by decide)) (fun _ hk => hk.1.2) (.slice Ao25 y218.length co25)) (fun _ hk => hk.2) (.int .i64 a0_0)) (fun _ hk => hk.2) (.int .i64 a0_1)) (fun _ hk => hk.2) (.int .i64 a0_2)) (fun _ hk => hk.2) (.slice Ao25 y218.length co25)) (fun _ hk => hk.1.1), by repeat (with_reducible first | exact hq HB.out | refine bs ?_ GE205.out | refine bs ?_ GE206.out | refine us ?_)⟩
        · rw [if_neg c18] at H
          exact absurd H (by simp)

end Go.Proofs.Ytjhcphcjpndciaa.PFnExactTableAdd
