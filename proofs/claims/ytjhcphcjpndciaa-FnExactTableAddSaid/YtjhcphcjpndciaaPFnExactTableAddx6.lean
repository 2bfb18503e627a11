-- Written by a program of this repo (xprint.py) out of the translation; Lean checks it. SHRUNK
import Derived.Test.YtjhcphcjpndciaaPFnExactTableAddx0
import Derived.Test.YtjhcphcjpndciaaPFnExactTableAddx4
import Derived.Test.YtjhcphcjpndciaaPFnExactTableAddx5
namespace Go.Proofs.Ytjhcphcjpndciaa.PFnExactTableAdd
open Go.RowKit Go.Proofs.YtjhcphcjpndciaaW.PrintWords Go.Proofs.YtjhcphcjpndciaaW.PrintLast Go.Proofs.YtjhcphcjpndciaaW.PrintMore
attribute [local go_sem] max2_int min2_int max_two min_two max_three min_three max_four min_four   -- for this text's walks alone
set_option linter.unusedVariables false
set_option linter.unusedSimpArgs false

/-! ### spec_TableAdd: function 50 -/
def spec_TableAdd.j0 : Nat → Bool → Int → Int → Int → List (S23) → ByteArray → ByteArray → Option (Int × Int × Int × (List (S23)) × Int)
  | 0, _, _, _, _, _, _, _ => none
  | k + 1, x18, x177000, x177001, x177002, x177003, x178000, x178001 => if x18 = true then (some (0, 0, 0, ([] : List (S23)), 1)) else ((spec_l14Cost.f x178000 x178001).bind fun t181 => (if t181 > x177001 then (some (0, 0, 0, ([] : List (S23)), 16)) else ((spec_l14Cost.f x178000 x178001).bind fun t182 => ((spec_l14Fit.f k x177003 (wrap64 (x177001 - t182))).bind fun t183 => ((some (([(⟨x178000, x178001⟩ : S23)] : List (S23)) : List (S23))).bind fun y186 => (if t183.length + y186.length < 4398046511104 then (some (x177000, x177001, wrap64 (x177002 + 1), (t183 ++ y186), 0)) else (none)))))))
def spec_TableAdd.f (k : Nat) (a0_0 : Int) (a0_1 : Int) (a0_2 : Int) (l0_3 : List (S23)) (a1_0 : ByteArray) (a1_1 : ByteArray) : Option (Int × Int × Int × (List (S23)) × Int) := (spec_TableOK.f k a0_0 a0_1 a0_2 l0_3).bind fun t179 => (if t179 = true then ((spec_l14FieldOK.f k a1_0 a1_1).bind fun t180 => (if t180 = true then (spec_TableAdd.j0 k (a0_2 == 4611686018427387902) a0_0 a0_1 a0_2 l0_3 a1_0 a1_1) else (spec_TableAdd.j0 k true a0_0 a0_1 a0_2 l0_3 a1_0 a1_1))) else (spec_TableAdd.j0 k true a0_0 a0_1 a0_2 l0_3 a1_0 a1_1))
theorem spec_TableAdd.mono_l : ∀ k, (∀ y0 y1 y2 y3 y4 y5 y6, LeO (spec_TableAdd.j0 k y0 y1 y2 y3 y4 y5 y6) (spec_TableAdd.j0 (k + 1) y0 y1 y2 y3 y4 y5 y6))
  | 0 => fun _ _ _ _ _ _ _ r h => by simp [spec_TableAdd.j0] at h
  | k + 1 => by
    have ih0 := spec_TableAdd.mono_l k
    · intro y0 y1 y2 y3 y4 y5 y6
      unfold spec_TableAdd.j0
      repeat' first
      | (with_reducible exact ih0 _ _ _ _ _ _ _)
      | (with_reducible exact spec_TableOK.mono _ _ _ _ _)
      | (with_reducible exact spec_l14FieldOK.mono _ _ _)
      | (with_reducible exact spec_l14Fit.mono _ _ _)
      | (with_reducible exact LeO.refl _)
      | (with_reducible exact LeO.none _)
      | (with_reducible refine LeO.ite ?_ ?_)
      | (with_reducible refine LeO.bind ?_ (fun _ => ?_))
      | exact ih0 _ _ _ _ _ _ _
      | exact spec_TableOK.mono _ _ _ _ _
      | exact spec_l14FieldOK.mono _ _ _
      | exact spec_l14Fit.mono _ _ _
      | exact LeO.none _
      | refine LeO.ite ?_ ?_
      | refine LeO.bind ?_ (fun _ => ?_)
theorem spec_TableAdd.mono : ∀ a0 a1 a2 a3 a4 a5 k, LeO (spec_TableAdd.f k a0 a1 a2 a3 a4 a5) (spec_TableAdd.f (k + 1) a0 a1 a2 a3 a4 a5) := by
  intro a0 a1 a2 a3 a4 a5 k
  have ih0 := spec_TableAdd.mono_l k
  unfold spec_TableAdd.f
  repeat' first
      | (with_reducible exact ih0 _ _ _ _ _ _ _)
      | (with_reducible exact spec_TableOK.mono _ _ _ _ _)
      | (with_reducible exact spec_l14FieldOK.mono _ _ _)
      | (with_reducible exact spec_l14Fit.mono _ _ _)
      | (with_reducible exact LeO.refl _)
      | (with_reducible exact LeO.none _)
      | (with_reducible refine LeO.ite ?_ ?_)
      | (with_reducible refine LeO.bind ?_ (fun _ => ?_))
      | exact ih0 _ _ _ _ _ _ _
      | exact spec_TableOK.mono _ _ _ _ _
      | exact spec_l14FieldOK.mono _ _ _
      | exact spec_l14Fit.mono _ _ _
      | exact LeO.none _
      | refine LeO.ite ?_ ?_
      | refine LeO.bind ?_ (fun _ => ?_)
def spec_TableAdd.T5 : Bool × List (List Nat × List Nat) := (true, [([], []), ([0], [0]), ([], []), ([2], [2]), ([], []), ([4], [4]), ([3, 5], [3, 5]), ([1, 6, 5], [1, 6]), ([], []), ([8], [8]), ([7, 9, 7], [7, 9]), ([0, 1, 2, 3, 4, 5, 6, 7, 8, 9, 10], []), ([11, 10, 10, 0, 1, 2, 3, 4, 5, 6, 7, 8, 9, 10], [10, 11])])
def spec_TableAdd.B5 : List Nat := [0, 1, 0, 4, 0, 16, 60, 127, 0, 256, 1023, 2047, 4095]
theorem spec_TableAdd.tab5 : rtab .any (opsOf Try.f50 5) = spec_TableAdd.T5 := by kernel_rfl
theorem spec_TableAdd.bits5 : waitsOk spec_TableAdd.T5.2 spec_TableAdd.B5 = true := by kernel_rfl
set_option maxHeartbeats 8000000 in
set_option maxRecDepth 100000 in
theorem spec_TableAdd.calls (k : Nat) (a0_0 : Int) (a0_1 : Int) (a0_2 : Int) (A0_3 : Option Addr) (c0_3 : Nat) (l0_3 : List (S23)) (a1_0 : ByteArray) (a1_1 : ByteArray) (r1 : Int) (r2 : Int) (r3 : Int) (r4 : List (S23)) (r5 : Int) (w : World) (hr0_3 : Kd.C k23 w A0_3 l0_3.length l0_3) (hc0_3 : l0_3.length ≤ c0_3) (h : spec_TableAdd.f k a0_0 a0_1 a0_2 l0_3 a1_0 a1_1 = some (r1, r2, r3, r4, r5)) :
    Calls Try.prog 50 #[.agg #[.int .i64 a0_0, .int .i64 a0_1, .int .i64 a0_2, .slice A0_3 l0_3.length c0_3], .agg #[.string a1_0, .string a1_1]] w fun e w' => ∃ v3_ : Value, e = .returned (.tuple #[.agg #[.int .i64 r1, .int .i64 r2, .int .i64 r3, v3_], .int .i64 r5]) ∧ Kd.R k23 23 w' w.heap.size (fun _ => True) v3_ r4 ∧ Below w.heap.size w w' := by
  have hu69 := Try.underlying69
  have hu23 := Try.underlying23
  have HR0_3 := Aside0.mk hr0_3
  have HC0_3 := Aside0.mk hc0_3
  clear hr0_3 hc0_3
  have HB := am (Below.refl w.heap.size w)
  have H : ((spec_TableOK.f k a0_0 a0_1 a0_2 l0_3).bind fun t179 => (if t179 = true then ((spec_l14FieldOK.f k a1_0 a1_1).bind fun t180 => (if t180 = true then (spec_TableAdd.j0 k (a0_2 == 4611686018427387902) a0_0 a0_1 a0_2 l0_3 a1_0 a1_1) else (spec_TableAdd.j0 k true a0_0 a0_1 a0_2 l0_3 a1_0 a1_1))) else (spec_TableAdd.j0 k true a0_0 a0_1 a0_2 l0_3 a1_0 a1_1))) = some (r1, r2, r3, r4, r5) := h
  clear h
  have HC3 := Aside0.mk H
  clear H
  go_enter Try.func50, Try.ntmps50
  go_upto_region 1 with (first | ((with_reducible refine gate_dst (N := 2) rfl ?_); refine box_event ?hg (N := 2) ?hd (cs := #[.int .i64 a0_0, .int .i64 a0_1, .int .i64 a0_2, .slice A0_3 l0_3.length c0_3]) (t := 69) ?hr ?_; (case hd => rfl); (case hg => rfl); (case hr => first | (go_simp; done) | (go_simp; rfl)); intro gb176 hg w4 hbox hb; have BK176 := am (hbox); have GW176 := am ((by rw [hg]; exact (below_size (hq HB.out)) : w.heap.size ≤ gb176)); have GE176 := GW176; replace HB := am (below_step (hq HB.out) hb); clear hb hbox hg) | ((with_reducible refine gate_dst (N := 3) rfl ?_); refine box_event ?hg (N := 3) ?hd (cs := #[.string a1_0, .string a1_1]) (t := 23) ?hr ?_; (case hd => rfl); (case hg => rfl); (case hr => first | (go_simp; done) | (go_simp; rfl)); intro gb177 hg w5 hbox hb; have BK177 := am (hbox); have GW177 := am ((by rw [hg]; exact (below_size (by repeat (with_reducible first | exact hq HB.out | refine bs ?_ GE176.out | refine us ?_))) : w.heap.size ≤ gb177)); have GE177 := GW177; have NB176_177 := am ((by rw [hg]; exact Nat.ne_of_lt (blk_lt (bq BK176.out)) : gb176 ≠ gb177)); have NB177_176 := am ((by rw [hg]; exact Nat.ne_of_gt (blk_lt (bq BK176.out)) : gb177 ≠ gb176)); replace BK176 := am (blk_below (bq BK176.out) hb); replace HB := am (below_step (by repeat (with_reducible first | exact hq HB.out | refine bs ?_ GE176.out | refine us ?_)) hb); clear hb hbox hg) | ((with_reducible refine gate_dst (N := 4) rfl ?_); refine box_event ?hg (N := 4) ?hd (cs := #[.int .i64 0, .int .i64 0, .int .i64 0, .slice none 0 0]) (t := 69) ?hr ?_; (case hd => rfl); (case hg => rfl); (case hr => first | (go_simp; done) | (go_simp; rfl)); intro gb178 hg w6 hbox hb; have BK178 := am (hbox); have GW178 := am ((by rw [hg]; exact (below_size (by repeat (with_reducible first | exact hq HB.out | refine bs ?_ GE176.out | refine bs ?_ GE177.out | refine us ?_))) : w.heap.size ≤ gb178)); have GE178 := GW178; have NB176_178 := am ((by rw [hg]; exact Nat.ne_of_lt (blk_lt (bq BK176.out)) : gb176 ≠ gb178)); have NB178_176 := am ((by rw [hg]; exact Nat.ne_of_gt (blk_lt (bq BK176.out)) : gb178 ≠ gb176)); have NB177_178 := am ((by rw [hg]; exact Nat.ne_of_lt (blk_lt (bq BK177.out)) : gb177 ≠ gb178)); have NB178_177 := am ((by rw [hg]; exact Nat.ne_of_gt (blk_lt (bq BK177.out)) : gb178 ≠ gb177)); replace BK176 := am (blk_below (bq BK176.out) hb); replace BK177 := am (blk_below (bq BK177.out) hb); replace HB := am (below_step (by repeat (with_reducible first | exact hq HB.out | refine bs ?_ GE176.out | refine bs ?_ GE177.out | refine us ?_)) hb); clear hb hbox hg))
  (try simp only [Act.put, sA, sB, sC])
  go_cut [18] (fun v18 wc => ∃ (kq : Nat) (x18_2 : Bool), v18 = .bool x18_2 ∧ Aside0 (spec_TableAdd.j0 kq x18_2 a0_0 a0_1 a0_2 l0_3 a1_0 a1_1 = some (r1, r2, r3, r4, r5)) ∧ Aside0 (kq ≤ k) ∧ Aside0 (wc.heap[gb176]? = some (.cells #[.int .i64 a0_0, .int .i64 a0_1, .int .i64 a0_2, (.slice A0_3 l0_3.length c0_3)] 69 (0, 0))) ∧ Aside0 (wc.heap[gb177]? = some (.cells #[.string a1_0, .string a1_1] 23 (0, 0))) ∧ Aside0 (wc.heap[gb178]? = some (.cells #[.int .i64 0, .int .i64 0, .int .i64 0, (.slice none 0 0)] 69 (0, 0))) ∧ Aside0 (Below w.heap.size w wc))
  case first =>
    have H := HC3.out
    clear HC3
    replace H := Option.bind_eq_some_iff.mp H
    obtain ⟨t179, A70, H⟩ := H
    replace H : (if t179 = true then ((spec_l14FieldOK.f k a1_0 a1_1).bind fun t180 => (if t180 = true then (spec_TableAdd.j0 k (a0_2 == 4611686018427387902) a0_0 a0_1 a0_2 l0_3 a1_0 a1_1) else (spec_TableAdd.j0 k true a0_0 a0_1 a0_2 l0_3 a1_0 a1_1))) else (spec_TableAdd.j0 k true a0_0 a0_1 a0_2 l0_3 a1_0 a1_1)) = some (r1, r2, r3, r4, r5) := H
    have A7 := Aside0.mk A70
    clear A70
    by_cases c8 : t179 = true
    · subst c8
      have H1 : ((spec_l14FieldOK.f k a1_0 a1_1).bind fun t180 => (if t180 = true then (spec_TableAdd.j0 k (a0_2 == 4611686018427387902) a0_0 a0_1 a0_2 l0_3 a1_0 a1_1) else (spec_TableAdd.j0 k true a0_0 a0_1 a0_2 l0_3 a1_0 a1_1))) = some (r1, r2, r3, r4, r5) := by rw [if_pos rfl] at H; exact H
      clear H
      have H := H1
      clear H1
      replace H := Option.bind_eq_some_iff.mp H
      obtain ⟨t180, A90, H⟩ := H
      replace H : (if t180 = true then (spec_TableAdd.j0 k (a0_2 == 4611686018427387902) a0_0 a0_1 a0_2 l0_3 a1_0 a1_1) else (spec_TableAdd.j0 k true a0_0 a0_1 a0_2 l0_3 a1_0 a1_1)) = some (r1, r2, r3, r4, r5) := H
      have A9 := Aside0.mk A90
      clear A90
      by_cases c10 : t180 = true
      · subst c10
        have H1 : (spec_TableAdd.j0 k (a0_2 == 4611686018427387902) a0_0 a0_1 a0_2 l0_3 a1_0 a1_1) = some (r1, r2, r3, r4, r5) := by rw [if_pos rfl] at H; exact H
        clear H
        have H := H1
        clear H1
        have H' := Aside0.mk H
        clear H
        have hnb11 := NB176_177.out
        have hnc11 := NB177_176.out
        have hnb12 := NB176_178.out
        have hnc12 := NB178_176.out
        have hcz13_0 : w6.cell? ⟨gb176, 0, none⟩ = some (.int .i64 a0_0) := bc BK176 0
        have hcz13_1 : w6.cell? ⟨gb176, 1, none⟩ = some (.int .i64 a0_1) := bc BK176 1
        have hcz13_2 : w6.cell? ⟨gb176, 2, none⟩ = some (.int .i64 a0_2) := bc BK176 2
        have hcz13_3 : w6.cell? ⟨gb176, 3, none⟩ = some (.slice A0_3 l0_3.length c0_3) := bc BK176 3
        have hfz13_0 := blk_frozen BK176.out 0
        have hfz13_1 := blk_frozen BK176.out 1
        have hfz13_2 := blk_frozen BK176.out 2
        have hfz13_3 := blk_frozen BK176.out 3
        go_wp2_with (first | ((with_reducible refine gate_callee (f := 39) rfl ?_); refine goesL_ (some 7) rfl rfl Try.func39 (by kernel_rfl) rfl #[.agg #[.int .i64 a0_0, .int .i64 a0_1, .int .i64 a0_2, .slice A0_3 l0_3.length c0_3]] rfl (by (try simp only [List.map_toArray, List.map_cons, List.map_nil]); first | done | rfl | (simp only [List.length_drop, List.length_take]; rfl)) ?_; (with_reducible refine (spec_TableOK.calls k a0_0 a0_1 a0_2 _ _ l0_3 true _ ?side1 ?side2 A7.out).mono ?_); (case side1 => repeat (first | exact (Kd.C_below HR0_3.out HB.out) | (with_reducible refine Kd.C_alloc ?_ _) | (with_reducible refine Kd.C_drewN ?_ _) | (with_reducible refine Kd.C_drew ?_))); (case side2 => exact HC0_3.out); rintro e w14 ⟨rfl, hb⟩; refine ⟨_, rfl, ?_⟩; replace BK176 := am (blk_below (bq BK176.out) hb); replace BK177 := am (blk_below (bq BK177.out) hb); replace BK178 := am (blk_below (bq BK178.out) hb); replace HB := am (below_step (by repeat (with_reducible first | exact hq HB.out | refine bs ?_ GE176.out | refine bs ?_ GE177.out | refine bs ?_ GE178.out | refine us ?_)) hb); (try clear hb); (try clear hb2); (try clear hk); (try clear hi); have hnb15 := NB177_178.out; have hnc15 := NB178_177.out; have hcz16_0 : w14.cell? ⟨gb177, 0, none⟩ = some (.string a1_0) := bc BK177 0; have hcz16_1 : w14.cell? ⟨gb177, 1, none⟩ = some (.string a1_1) := bc BK177 1; have hfz16_0 := blk_frozen BK177.out 0; have hfz16_1 := blk_frozen BK177.out 1) | (go_at_call 100; (with_reducible refine (spec_l14FieldOK.calls k a1_0 a1_1 true _ A9.out).mono ?_); rintro e w17 ⟨rfl, hb⟩; replace BK176 := am (blk_below (bq BK176.out) hb); replace BK177 := am (blk_below (bq BK177.out) hb); replace BK178 := am (blk_below (bq BK178.out) hb); replace HB := am (below_step (by repeat (with_reducible first | exact hq HB.out | refine bs ?_ GE176.out | refine bs ?_ GE177.out | refine bs ?_ GE178.out | refine us ?_)) hb); (try clear hb); (try clear hb2); (try clear hk); (try clear hi); have hcz18_0 : w17.cell? ⟨gb176, 0, none⟩ = some (.int .i64 a0_0) := bc BK176 0; have hcz18_1 : w17.cell? ⟨gb176, 1, none⟩ = some (.int .i64 a0_1) := bc BK176 1; have hcz18_2 : w17.cell? ⟨gb176, 2, none⟩ = some (.int .i64 a0_2) := bc BK176 2; have hcz18_3 : w17.cell? ⟨gb176, 3, none⟩ = some (.slice A0_3 l0_3.length c0_3) := bc BK176 3; have hfz18_0 := blk_frozen BK176.out 0; have hfz18_1 := blk_frozen BK176.out 1; have hfz18_2 := blk_frozen BK176.out 2; have hfz18_3 := blk_frozen BK176.out 3))
        go_meet
        case rel => exact ⟨_, ((a0_2 == 4611686018427387902)), (by first | rfl | (simp; done) | (simp [*]; done)), H', ⟨by first | omega | exact Nat.le_refl _⟩, ⟨by (with_reducible repeat (first | refine blk_drewN ?_ _ | refine blk_drew ?_ | refine blk_alloc ?_ _)); exact BK176.out⟩, ⟨by (with_reducible repeat (first | refine blk_drewN ?_ _ | refine blk_drew ?_ | refine blk_alloc ?_ _)); exact BK177.out⟩, ⟨by (with_reducible repeat (first | refine blk_drewN ?_ _ | refine blk_drew ?_ | refine blk_alloc ?_ _)); exact BK178.out⟩, ⟨by repeat (with_reducible first | exact hq HB.out | refine bs ?_ GE176.out | refine bs ?_ GE177.out | refine bs ?_ GE178.out | refine us ?_)⟩⟩
      · replace c10 := Bool.eq_false_iff.mpr c10
        subst c10
        have H1 : (spec_TableAdd.j0 k true a0_0 a0_1 a0_2 l0_3 a1_0 a1_1) = some (r1, r2, r3, r4, r5) := by rw [if_neg (show ¬ (false = true) by decide)] at H; exact H
        clear H
        have H := H1
        clear H1
        have H' := Aside0.mk H
        clear H
        have hnb19 := NB176_177.out
        have hnc19 := NB177_176.out
        have hnb20 := NB176_178.out
        have hnc20 := NB178_176.out
        have hcz21_0 : w6.cell? ⟨gb176, 0, none⟩ = some (.int .i64 a0_0) := bc BK176 0
        have hcz21_1 : w6.cell? ⟨gb176, 1, none⟩ = some (.int .i64 a0_1) := bc BK176 1
        have hcz21_2 : w6.cell? ⟨gb176, 2, none⟩ = some (.int .i64 a0_2) := bc BK176 2
        have hcz21_3 : w6.cell? ⟨gb176, 3, none⟩ = some (.slice A0_3 l0_3.length c0_3) := bc BK176 3
        have hfz21_0 := blk_frozen BK176.out 0
        have hfz21_1 := blk_frozen BK176.out 1
        have hfz21_2 := blk_frozen BK176.out 2
        have hfz21_3 := blk_frozen BK176.out 3
        go_wp2_with (first | ((with_reducible refine gate_callee (f := 39) rfl ?_); refine goesL_ (some 7) rfl rfl Try.func39 (by kernel_rfl) rfl #[.agg #[.int .i64 a0_0, .int .i64 a0_1, .int .i64 a0_2, .slice A0_3 l0_3.length c0_3]] rfl (by (try simp only [List.map_toArray, List.map_cons, List.map_nil]); first | done | rfl | (simp only [List.length_drop, List.length_take]; rfl)) ?_; (with_reducible refine (spec_TableOK.calls k a0_0 a0_1 a0_2 _ _ l0_3 true _ ?side1 ?side2 A7.out).mono ?_); (case side1 => repeat (first | exact (Kd.C_below HR0_3.out HB.out) | (with_reducible refine Kd.C_alloc ?_ _) | (with_reducible refine Kd.C_drewN ?_ _) | (with_reducible refine Kd.C_drew ?_))); (case side2 => exact HC0_3.out); rintro e w22 ⟨rfl, hb⟩; refine ⟨_, rfl, ?_⟩; replace BK176 := am (blk_below (bq BK176.out) hb); replace BK177 := am (blk_below (bq BK177.out) hb); replace BK178 := am (blk_below (bq BK178.out) hb); replace HB := am (below_step (by repeat (with_reducible first | exact hq HB.out | refine bs ?_ GE176.out | refine bs ?_ GE177.out | refine bs ?_ GE178.out | refine us ?_)) hb); (try clear hb); (try clear hb2); (try clear hk); (try clear hi); have hnb23 := NB177_178.out; have hnc23 := NB178_177.out; have hcz24_0 : w22.cell? ⟨gb177, 0, none⟩ = some (.string a1_0) := bc BK177 0; have hcz24_1 : w22.cell? ⟨gb177, 1, none⟩ = some (.string a1_1) := bc BK177 1; have hfz24_0 := blk_frozen BK177.out 0; have hfz24_1 := blk_frozen BK177.out 1) | (go_at_call 100; (with_reducible refine (spec_l14FieldOK.calls k a1_0 a1_1 false _ A9.out).mono ?_); rintro e w25 ⟨rfl, hb⟩; replace BK176 := am (blk_below (bq BK176.out) hb); replace BK177 := am (blk_below (bq BK177.out) hb); replace BK178 := am (blk_below (bq BK178.out) hb); replace HB := am (below_step (by repeat (with_reducible first | exact hq HB.out | refine bs ?_ GE176.out | refine bs ?_ GE177.out | refine bs ?_ GE178.out | refine us ?_)) hb); (try clear hb); (try clear hb2); (try clear hk); (try clear hi)))
        go_meet
        case rel => exact ⟨_, (true), (by first | rfl | (simp; done) | (simp [*]; done)), H', ⟨by first | omega | exact Nat.le_refl _⟩, ⟨by (with_reducible repeat (first | refine blk_drewN ?_ _ | refine blk_drew ?_ | refine blk_alloc ?_ _)); exact BK176.out⟩, ⟨by (with_reducible repeat (first | refine blk_drewN ?_ _ | refine blk_drew ?_ | refine blk_alloc ?_ _)); exact BK177.out⟩, ⟨by (with_reducible repeat (first | refine blk_drewN ?_ _ | refine blk_drew ?_ | refine blk_alloc ?_ _)); exact BK178.out⟩, ⟨by repeat (with_reducible first | exact hq HB.out | refine bs ?_ GE176.out | refine bs ?_ GE177.out | refine bs ?_ GE178.out | refine us ?_)⟩⟩
    · replace c8 := Bool.eq_false_iff.mpr c8
      subst c8
      have H1 : (spec_TableAdd.j0 k true a0_0 a0_1 a0_2 l0_3 a1_0 a1_1) = some (r1, r2, r3, r4, r5) := by rw [if_neg (show ¬ (false = true) by decide)] at H; exact H
      clear H
      have H := H1
      clear H1
      have H' := Aside0.mk H
      clear H
      have hnb26 := NB176_177.out
      have hnc26 := NB177_176.out
      have hnb27 := NB176_178.out
      have hnc27 := NB178_176.out
      have hcz28_0 : w6.cell? ⟨gb176, 0, none⟩ = some (.int .i64 a0_0) := bc BK176 0
      have hcz28_1 : w6.cell? ⟨gb176, 1, none⟩ = some (.int .i64 a0_1) := bc BK176 1
      have hcz28_2 : w6.cell? ⟨gb176, 2, none⟩ = some (.int .i64 a0_2) := bc BK176 2
      have hcz28_3 : w6.cell? ⟨gb176, 3, none⟩ = some (.slice A0_3 l0_3.length c0_3) := bc BK176 3
      have hfz28_0 := blk_frozen BK176.out 0
      have hfz28_1 := blk_frozen BK176.out 1
      have hfz28_2 := blk_frozen BK176.out 2
      have hfz28_3 := blk_frozen BK176.out 3
      go_wp2_with (first | ((with_reducible refine gate_callee (f := 39) rfl ?_); refine goesL_ (some 7) rfl rfl Try.func39 (by kernel_rfl) rfl #[.agg #[.int .i64 a0_0, .int .i64 a0_1, .int .i64 a0_2, .slice A0_3 l0_3.length c0_3]] rfl (by (try simp only [List.map_toArray, List.map_cons, List.map_nil]); first | done | rfl | (simp only [List.length_drop, List.length_take]; rfl)) ?_; (with_reducible refine (spec_TableOK.calls k a0_0 a0_1 a0_2 _ _ l0_3 false _ ?side1 ?side2 A7.out).mono ?_); (case side1 => repeat (first | exact (Kd.C_below HR0_3.out HB.out) | (with_reducible refine Kd.C_alloc ?_ _) | (with_reducible refine Kd.C_drewN ?_ _) | (with_reducible refine Kd.C_drew ?_))); (case side2 => exact HC0_3.out); rintro e w29 ⟨rfl, hb⟩; refine ⟨_, rfl, ?_⟩; replace BK176 := am (blk_below (bq BK176.out) hb); replace BK177 := am (blk_below (bq BK177.out) hb); replace BK178 := am (blk_below (bq BK178.out) hb); replace HB := am (below_step (by repeat (with_reducible first | exact hq HB.out | refine bs ?_ GE176.out | refine bs ?_ GE177.out | refine bs ?_ GE178.out | refine us ?_)) hb); (try clear hb); (try clear hb2); (try clear hk); (try clear hi)))
      go_meet
      case rel => exact ⟨_, (true), (by first | rfl | (simp; done) | (simp [*]; done)), H', ⟨by first | omega | exact Nat.le_refl _⟩, ⟨by (with_reducible repeat (first | refine blk_drewN ?_ _ | refine blk_drew ?_ | refine blk_alloc ?_ _)); exact BK176.out⟩, ⟨by (with_reducible repeat (first | refine blk_drewN ?_ _ | refine blk_drew ?_ | refine blk_alloc ?_ _)); exact BK177.out⟩, ⟨by (with_reducible repeat (first | refine blk_drewN ?_ _ | refine blk_drew ?_ | refine blk_alloc ?_ _)); exact BK178.out⟩, ⟨by repeat (with_reducible first | exact hq HB.out | refine bs ?_ GE176.out | refine bs ?_ GE177.out | refine bs ?_ GE178.out | refine us ?_)⟩⟩
  case rest =>
    clear HC3
    try clear c1
    try clear c2
    try clear p2
    try clear c3
    try clear c5
    try clear c8
    try clear c10
    try clear c11
    try clear c12
    try clear c15
    try clear c19
    try clear c20
    try clear c23
    try clear c26
    try clear c27
    try clear hcz13_0
    try clear hcz13_1
    try clear hcz13_2
    try clear hcz13_3
    try clear hcz16_0
    try clear hcz16_1
    try clear hcz18_0
    try clear hcz18_1
    try clear hcz18_2
    try clear hcz18_3
    try clear hcz21_0
    try clear hcz21_1
    try clear hcz21_2
    try clear hcz21_3
    try clear hcz24_0
    try clear hcz24_1
    try clear hcz28_0
    try clear hcz28_1
    try clear hcz28_2
    try clear hcz28_3
    try clear hfz13_0
    try clear hfz13_1
    try clear hfz13_2
    try clear hfz13_3
    try clear hfz16_0
    try clear hfz16_1
    try clear hfz18_0
    try clear hfz18_1
    try clear hfz18_2
    try clear hfz18_3
    try clear hfz21_0
    try clear hfz21_1
    try clear hfz21_2
    try clear hfz21_3
    try clear hfz24_0
    try clear hfz24_1
    try clear hfz28_0
    try clear hfz28_1
    try clear hfz28_2
    try clear hfz28_3
    obtain ⟨kq, x18_2, rfl, HA, HJ2, BK176, BK177, BK178, HB⟩ := hcut
    cases kq with
    | zero => exact absurd HA.out (by simp [spec_TableAdd.j0])
    | succ kj2 =>
      have H := HA.out
      clear HA
      simp only [spec_TableAdd.j0] at H
      by_cases c30 : x18_2 = true
      · subst c30
        have H1 : (some (0, 0, 0, ([] : List (S23)), 1)) = some (r1, r2, r3, r4, r5) := by rw [if_pos rfl] at H; exact H
        clear H
        have H := H1
        clear H1
        simp only [Option.some.injEq, Prod.mk.injEq] at H
        obtain ⟨rfl, rfl, rfl, rfl, rfl⟩ := H
        have hnb31 := NB178_176.out
        have hnc31 := NB176_178.out
        have hnb32 := NB178_177.out
        have hnc32 := NB177_178.out
        have hcz33_0 : wc.cell? ⟨gb178, 0, none⟩ = some (.int .i64 0) := bc BK178 0
        have hcz33_1 : wc.cell? ⟨gb178, 1, none⟩ = some (.int .i64 0) := bc BK178 1
        have hcz33_2 : wc.cell? ⟨gb178, 2, none⟩ = some (.int .i64 0) := bc BK178 2
        have hcz33_3 : wc.cell? ⟨gb178, 3, none⟩ = some (.slice none 0 0) := bc BK178 3
        have hfz33_0 := blk_frozen BK178.out 0
        have hfz33_1 := blk_frozen BK178.out 1
        have hfz33_2 := blk_frozen BK178.out 2
        have hfz33_3 := blk_frozen BK178.out 3
        go_wp2
        refine bodyPost_ret (results_ct rfl _ _ gb178 69 #[.int .i64 0, .int .i64 0, .int .i64 0, .slice none 0 0] (0, 0) _ rfl (bu (blk_put (cs := #[.int .i64 0, .int .i64 0, .int .i64 0, .slice none 0 0]) (bu (blk_put (cs := #[.int .i64 0, .int .i64 0, .int .i64 0, .slice none 0 0]) (bu (blk_put (cs := #[.int .i64 0, .int .i64 0, .int .i64 0, .slice none 0 0]) (bu (blk_put (cs := #[.int .i64 0, .int .i64 0, .int .i64 0, .slice none 0 0]) (bq BK178.out) 0 _ rfl)) 1 _ rfl)) 2 _ rfl)) 3 _ rfl)) Try.underlying69 rfl (by kernel_rfl)) rfl ?_
        exact ⟨_, by first | rfl | (simp [errW_none, errW_some] <;> rfl) | (simp [*, errW_none, errW_some] <;> rfl), by first | exact Kd.R_nil _ _ _ _ _ | exact Kd.N_nil _ _ _ _ _ | exact Kd.V_nil _ _ _ _ _ | exact Kd.Q_nil _ _ _ _ _ | exact Kd.S_nil _ _ _ _ _, by repeat (with_reducible first | exact hq HB.out | refine bs ?_ GE176.out | refine bs ?_ GE177.out | refine bs ?_ GE178.out | refine us ?_)⟩
      · replace c30 := Bool.eq_false_iff.mpr c30
        subst c30
        have H1 : ((spec_l14Cost.f a1_0 a1_1).bind fun t181 => (if t181 > a0_1 then (some (0, 0, 0, ([] : List (S23)), 16)) else ((spec_l14Cost.f a1_0 a1_1).bind fun t182 => ((spec_l14Fit.f kj2 l0_3 (wrap64 (a0_1 - t182))).bind fun t183 => ((some (([(⟨a1_0, a1_1⟩ : S23)] : List (S23)) : List (S23))).bind fun y186 => (if t183.length + y186.length < 4398046511104 then (some (a0_0, a0_1, wrap64 (a0_2 + 1), (t183 ++ y186), 0)) else (none))))))) = some (r1, r2, r3, r4, r5) := by rw [if_neg (show ¬ (false = true) by decide)] at H; exact H
        clear H
        have H := H1
        clear H1
        replace H := Option.bind_eq_some_iff.mp H
        obtain ⟨t181, A340, H⟩ := H
        replace H : (if t181 > a0_1 then (some (0, 0, 0, ([] : List (S23)), 16)) else ((spec_l14Cost.f a1_0 a1_1).bind fun t182 => ((spec_l14Fit.f kj2 l0_3 (wrap64 (a0_1 - t182))).bind fun t183 => ((some (([(⟨a1_0, a1_1⟩ : S23)] : List (S23)) : List (S23))).bind fun y186 => (if t183.length + y186.length < 4398046511104 then (some (a0_0, a0_1, wrap64 (a0_2 + 1), (t183 ++ y186), 0)) else (none)))))) = some (r1, r2, r3, r4, r5) := H
        have A34 := Aside0.mk A340
        clear A340
        by_cases c35 : t181 > a0_1
        · rw [if_pos c35] at H
          have c35b0 : decide (a0_1 < t181) = true := decide_eq_true c35
          clear c35
          simp only [Option.some.injEq, Prod.mk.injEq] at H
          obtain ⟨rfl, rfl, rfl, rfl, rfl⟩ := H
          try go_wp2
          have n0_ := am (blk_drew BK176.out)
          have n1_ := am (blk_drew BK177.out)
          have n2_ := am (blk_drew BK178.out)
          have n3_ := am (below_drew1 HB.out)
          clear BK176
          clear BK177
          clear BK178
          clear HB
          have BK176 := n0_
          have BK177 := n1_
          have BK178 := n2_
          have HB := n3_
          clear n0_ n1_ n2_ n3_
          refine start_ (n := 5) (S := fun w' => w'.cell? ⟨gb177, 0, none⟩ = some (.string a1_0) ∧ w'.cell? ⟨gb177, 1, none⟩ = some (.string a1_1) ∧ w'.cell? ⟨gb176, 0, none⟩ = some (.int .i64 a0_0) ∧ w'.cell? ⟨gb176, 1, none⟩ = some (.int .i64 a0_1) ∧ w'.cell? ⟨gb176, 2, none⟩ = some (.int .i64 a0_2) ∧ w'.cell? ⟨gb176, 3, none⟩ = some (.slice A0_3 l0_3.length c0_3)) (ds := []) #[false, false, false, false, false] (by kernel_rfl) rfl rfl ⟨bc BK177 0, bc BK177 1, bc BK176 0, bc BK176 1, bc BK176 2, bc BK176 3⟩ (fun hHeld => ?_)
          generalize wc.drew = w36 at BK176 BK177 BK178 HB hHeld ⊢
          refine pure_ (i := 2) (N := some 22) (v := ?_) (a' := ?_) #[false, false, true, false, false] rfl rfl (by kernel_rfl) (fun _ _ _ h => h) (Or.inl ⟨by rfl, ?_⟩) ?_ ?_
          rotate_left
          · intro w'
            go_simp
            with_reducible rfl
          rotate_left
          · simp only [Act.put, sA, sB, sC, i64_w, i32_w]
            rfl
          refine take_ (i := 0) (N := some 20) (v := ?_) (a' := ?_) #[true, false, true, false, false] rfl rfl (by kernel_rfl) (fun _ _ _ h => h) (Or.inl ⟨by rfl, ?_⟩) hHeld ?_ ?_
          rotate_left
          · rintro w' ⟨s0, s1, s2, s3, s4, s5⟩
            go_simp
            with_reducible rfl
          rotate_left
          · simp only [Act.put, sA, sB, sC, i64_w, i32_w]
            rfl
          refine take_ (i := 3) (N := some 23) (v := ?_) (a' := ?_) #[true, false, true, true, false] rfl rfl (by kernel_rfl) (fun _ _ _ h => h) (Or.inl ⟨by rfl, ?_⟩) hHeld ?_ ?_
          rotate_left
          · rintro w' ⟨s0, s1, s2, s3, s4, s5⟩
            go_simp
            with_reducible rfl
          rotate_left
          · simp only [Act.put, sA, sB, sC, i64_w, i32_w]
            rfl
          refine one_ (i := 1) (N := some 21) #[true, true, true, true, false] rfl rfl (by kernel_rfl) (by decide) (fun K hK => ?_)
          refine goes_ Try.func112 (by kernel_rfl) rfl #[.agg #[.string a1_0, .string a1_1]] (by rfl) rfl rfl (by (try simp only [List.map_toArray, List.map_cons, List.map_nil]); first | done | rfl | (simp only [List.length_drop, List.length_take]; rfl)) ?_
          with_reducible refine (spec_l14Cost.calls a1_0 a1_1 t181 _ A34.out).mono ?_
          rintro e w37 ⟨rfl, hb⟩
          refine ⟨_, rfl, ?_⟩
          have n0_ := am (blk_below (bq BK176.out) hb)
          have n1_ := am (blk_below (bq BK177.out) hb)
          have n2_ := am (blk_below (bq BK178.out) hb)
          have n3_ := am (below_step (by repeat (with_reducible first | exact hq HB.out | refine bs ?_ GE176.out | refine bs ?_ GE177.out | refine bs ?_ GE178.out | refine us ?_)) hb)
          clear BK176
          clear BK177
          clear BK178
          clear HB
          have BK176 := n0_
          have BK177 := n1_
          have BK178 := n2_
          have HB := n3_
          clear n0_ n1_ n2_ n3_
          (try clear hb)
          (try clear hb2)
          (try clear hk)
          (try clear hi)
          refine hK.out _ _ ⟨bc BK177 0, bc BK177 1, bc BK176 0, bc BK176 1, bc BK176 2, bc BK176 3⟩ (fun hHeld => ?_)
          clear hK K
          refine norm_ (a' := ?_) ?_ ?_
          rotate_left
          · show Act.put _ (some 21) _ = _
            simp only [Act.put, sA, sB, sC, i64_w, i32_w]
            rfl
          refine pure_ (i := 4) (N := some 24) (v := ?_) (a' := ?_) #[true, true, true, true, true] rfl rfl (by kernel_rfl) (fun _ _ _ h => h) (Or.inl ⟨by rfl, ?_⟩) ?_ ?_
          rotate_left
          · intro w'
            go_simp
            with_reducible rfl
          rotate_left
          · simp only [Act.put, sA, sB, sC, i64_w, i32_w]
            rfl
          refine done_ (by kernel_rfl) ?_
          have hnb38 := NB178_176.out
          have hnc38 := NB176_178.out
          have hnb39 := NB178_177.out
          have hnc39 := NB177_178.out
          have hcz40_0 : w37.cell? ⟨gb178, 0, none⟩ = some (.int .i64 0) := bc BK178 0
          have hcz40_1 : w37.cell? ⟨gb178, 1, none⟩ = some (.int .i64 0) := bc BK178 1
          have hcz40_2 : w37.cell? ⟨gb178, 2, none⟩ = some (.int .i64 0) := bc BK178 2
          have hcz40_3 : w37.cell? ⟨gb178, 3, none⟩ = some (.slice none 0 0) := bc BK178 3
          have hfz40_0 := blk_frozen BK178.out 0
          have hfz40_1 := blk_frozen BK178.out 1
          have hfz40_2 := blk_frozen BK178.out 2
          have hfz40_3 := blk_frozen BK178.out 3
          try go_wp2
          refine bodyPost_ret (results_ct rfl _ _ gb178 69 #[.int .i64 0, .int .i64 0, .int .i64 0, .slice none 0 0] (0, 0) _ rfl (bu (blk_put (cs := #[.int .i64 0, .int .i64 0, .int .i64 0, .slice none 0 0]) (bu (blk_put (cs := #[.int .i64 0, .int .i64 0, .int .i64 0, .slice none 0 0]) (bu (blk_put (cs := #[.int .i64 0, .int .i64 0, .int .i64 0, .slice none 0 0]) (bu (blk_put (cs := #[.int .i64 0, .int .i64 0, .int .i64 0, .slice none 0 0]) (bq BK178.out) 0 _ rfl)) 1 _ rfl)) 2 _ rfl)) 3 _ rfl)) Try.underlying69 rfl (by kernel_rfl)) rfl ?_
          exact ⟨_, by first | rfl | (simp [errW_none, errW_some] <;> rfl) | (simp [*, errW_none, errW_some] <;> rfl), by first | exact Kd.R_nil _ _ _ _ _ | exact Kd.N_nil _ _ _ _ _ | exact Kd.V_nil _ _ _ _ _ | exact Kd.Q_nil _ _ _ _ _ | exact Kd.S_nil _ _ _ _ _, by repeat (with_reducible first | exact hq HB.out | refine bs ?_ GE176.out | refine bs ?_ GE177.out | refine bs ?_ GE178.out | refine us ?_)⟩
        · rw [if_neg c35] at H
          have c35b0 : decide (a0_1 < t181) = false := decide_eq_false c35
          clear c35
          replace H := Option.bind_eq_some_iff.mp H
          obtain ⟨t182, A410, H⟩ := H
          replace H : ((spec_l14Fit.f kj2 l0_3 (wrap64 (a0_1 - t182))).bind fun t183 => ((some (([(⟨a1_0, a1_1⟩ : S23)] : List (S23)) : List (S23))).bind fun y186 => (if t183.length + y186.length < 4398046511104 then (some (a0_0, a0_1, wrap64 (a0_2 + 1), (t183 ++ y186), 0)) else (none)))) = some (r1, r2, r3, r4, r5) := H
          have A41 := Aside0.mk A410
          clear A410
          replace H := Option.bind_eq_some_iff.mp H
          obtain ⟨t183, A420, H⟩ := H
          replace H : ((some (([(⟨a1_0, a1_1⟩ : S23)] : List (S23)) : List (S23))).bind fun y186 => (if t183.length + y186.length < 4398046511104 then (some (a0_0, a0_1, wrap64 (a0_2 + 1), (t183 ++ y186), 0)) else (none))) = some (r1, r2, r3, r4, r5) := H
          have A42 := Aside0.mk A420
          clear A420
          obtain ⟨y186, hy186⟩ : ∃ y_ : List (S23), y_ = (([(⟨a1_0, a1_1⟩ : S23)] : List (S23))) := ⟨_, rfl⟩
          replace H : (if t183.length + y186.length < 4398046511104 then (some (a0_0, a0_1, wrap64 (a0_2 + 1), (t183 ++ y186), 0)) else (none)) = some (r1, r2, r3, r4, r5) := by first | (rw [hy186]; with_reducible exact H) | (have H2_ := (Option.bind_some _ _).symm.trans H; rw [hy186]; with_reducible exact H2_) | (have H2_ := (Option.bind_some _ _).symm.trans H; with_reducible exact H2_) | with_reducible exact H | (rw [hy186]; exact H) | exact H
          have Ny186 := Aside0.mk hy186
          clear hy186
          by_cases c43 : t183.length + y186.length < 4398046511104
          · rw [if_pos c43] at H
            have LMc43 := Aside0.mk c43
            clear c43
            obtain ⟨y189, hy189⟩ : ∃ y_ : List (S23), y_ = (t183 ++ y186) := ⟨_, rfl⟩
            replace H : (some (a0_0, a0_1, wrap64 (a0_2 + 1), y189, 0)) = some (r1, r2, r3, r4, r5) := by first | (rw [hy189]; with_reducible exact H) | (have H2_ := (Option.bind_some _ _).symm.trans H; rw [hy189]; with_reducible exact H2_) | (have H2_ := (Option.bind_some _ _).symm.trans H; with_reducible exact H2_) | with_reducible exact H | (rw [hy189]; exact H) | exact H
            have Ny189 := Aside0.mk hy189
            clear hy189
            simp only [Option.some.injEq, Prod.mk.injEq] at H
            obtain ⟨rfl, rfl, rfl, rfl, rfl⟩ := H
            try go_wp2
            have n0_ := am (blk_drew BK176.out)
            have n1_ := am (blk_drew BK177.out)
            have n2_ := am (blk_drew BK178.out)
            have n3_ := am (below_drew1 HB.out)
            clear BK176
            clear BK177
            clear BK178
            clear HB
            have BK176 := n0_
            have BK177 := n1_
            have BK178 := n2_
            have HB := n3_
            clear n0_ n1_ n2_ n3_
            refine start_ (n := 5) (S := fun w' => w'.cell? ⟨gb177, 0, none⟩ = some (.string a1_0) ∧ w'.cell? ⟨gb177, 1, none⟩ = some (.string a1_1) ∧ w'.cell? ⟨gb176, 0, none⟩ = some (.int .i64 a0_0) ∧ w'.cell? ⟨gb176, 1, none⟩ = some (.int .i64 a0_1) ∧ w'.cell? ⟨gb176, 2, none⟩ = some (.int .i64 a0_2) ∧ w'.cell? ⟨gb176, 3, none⟩ = some (.slice A0_3 l0_3.length c0_3)) (ds := []) #[false, false, false, false, false] (by kernel_rfl) rfl rfl ⟨bc BK177 0, bc BK177 1, bc BK176 0, bc BK176 1, bc BK176 2, bc BK176 3⟩ (fun hHeld => ?_)
            generalize wc.drew = w44 at BK176 BK177 BK178 HB hHeld ⊢
            refine pure_ (i := 2) (N := some 22) (v := ?_) (a' := ?_) #[false, false, true, false, false] rfl rfl (by kernel_rfl) (fun _ _ _ h => h) (Or.inl ⟨by rfl, ?_⟩) ?_ ?_
            rotate_left
            · intro w'
              go_simp
              with_reducible rfl
            rotate_left
            · simp only [Act.put, sA, sB, sC, i64_w, i32_w]
              rfl
            refine take_ (i := 0) (N := some 20) (v := ?_) (a' := ?_) #[true, false, true, false, false] rfl rfl (by kernel_rfl) (fun _ _ _ h => h) (Or.inl ⟨by rfl, ?_⟩) hHeld ?_ ?_
            rotate_left
            · rintro w' ⟨s0, s1, s2, s3, s4, s5⟩
              go_simp
              with_reducible rfl
            rotate_left
            · simp only [Act.put, sA, sB, sC, i64_w, i32_w]
              rfl
            refine take_ (i := 3) (N := some 23) (v := ?_) (a' := ?_) #[true, false, true, true, false] rfl rfl (by kernel_rfl) (fun _ _ _ h => h) (Or.inl ⟨by rfl, ?_⟩) hHeld ?_ ?_
            rotate_left
            · rintro w' ⟨s0, s1, s2, s3, s4, s5⟩
              go_simp
              with_reducible rfl
            rotate_left
            · simp only [Act.put, sA, sB, sC, i64_w, i32_w]
              rfl
            refine one_ (i := 1) (N := some 21) #[true, true, true, true, false] rfl rfl (by kernel_rfl) (by decide) (fun K hK => ?_)
            refine goes_ Try.func112 (by kernel_rfl) rfl #[.agg #[.string a1_0, .string a1_1]] (by rfl) rfl rfl (by (try simp only [List.map_toArray, List.map_cons, List.map_nil]); first | done | rfl | (simp only [List.length_drop, List.length_take]; rfl)) ?_
            with_reducible refine (spec_l14Cost.calls a1_0 a1_1 t181 _ A34.out).mono ?_
            rintro e w45 ⟨rfl, hb⟩
            refine ⟨_, rfl, ?_⟩
            have n0_ := am (blk_below (bq BK176.out) hb)
            have n1_ := am (blk_below (bq BK177.out) hb)
            have n2_ := am (blk_below (bq BK178.out) hb)
            have n3_ := am (below_step (by repeat (with_reducible first | exact hq HB.out | refine bs ?_ GE176.out | refine bs ?_ GE177.out | refine bs ?_ GE178.out | refine us ?_)) hb)
            clear BK176
            clear BK177
            clear BK178
            clear HB
            have BK176 := n0_
            have BK177 := n1_
            have BK178 := n2_
            have HB := n3_
            clear n0_ n1_ n2_ n3_
            (try clear hb)
            (try clear hb2)
            (try clear hk)
            (try clear hi)
            refine hK.out _ _ ⟨bc BK177 0, bc BK177 1, bc BK176 0, bc BK176 1, bc BK176 2, bc BK176 3⟩ (fun hHeld => ?_)
            clear hK K
            refine norm_ (a' := ?_) ?_ ?_
            rotate_left
            · show Act.put _ (some 21) _ = _
              simp only [Act.put, sA, sB, sC, i64_w, i32_w]
              rfl
            refine pure_ (i := 4) (N := some 24) (v := ?_) (a' := ?_) #[true, true, true, true, true] rfl rfl (by kernel_rfl) (fun _ _ _ h => h) (Or.inl ⟨by rfl, ?_⟩) ?_ ?_
            rotate_left
            · intro w'
              go_simp
              with_reducible rfl
            rotate_left
            · simp only [Act.put, sA, sB, sC, i64_w, i32_w]
              rfl
            refine done_ (by kernel_rfl) ?_
            try go_wp2
            have n0_ := am (blk_drew BK176.out)
            have n1_ := am (blk_drew BK177.out)
            have n2_ := am (blk_drew BK178.out)
            have n3_ := am (below_drew1 HB.out)
            clear BK176
            clear BK177
            clear BK178
            clear HB
            have BK176 := n0_
            have BK177 := n1_
            have BK178 := n2_
            have HB := n3_
            clear n0_ n1_ n2_ n3_
            refine start_ (n := 13) (S := fun w' => w'.cell? ⟨gb176, 0, none⟩ = some (.int .i64 a0_0) ∧ w'.cell? ⟨gb176, 1, none⟩ = some (.int .i64 a0_1) ∧ w'.cell? ⟨gb176, 2, none⟩ = some (.int .i64 a0_2) ∧ w'.cell? ⟨gb176, 3, none⟩ = some (.slice A0_3 l0_3.length c0_3) ∧ w'.cell? ⟨gb177, 0, none⟩ = some (.string a1_0) ∧ w'.cell? ⟨gb177, 1, none⟩ = some (.string a1_1)) (ds := [12]) #[false, false, false, false, false, false, false, false, false, false, false, false, false] (by kernel_rfl) rfl rfl ⟨bc BK176 0, bc BK176 1, bc BK176 2, bc BK176 3, bc BK177 0, bc BK177 1⟩ (fun hHeld => ?_); refine with_tabW spec_TableAdd.tab5 spec_TableAdd.bits5 (fun HT_ HW_ => ?_)
            generalize w45.drew = w46 at BK176 BK177 BK178 HB hHeld ⊢
            refine pure_ (i := 0) (N := some 26) (v := ?_) (a' := ?_) #[true, false, false, false, false, false, false, false, false, false, false, false, false] rfl rfl (any_of HT_.out (by kernel_rfl)) (fun _ _ _ h => h) (Or.inl ⟨by rfl, ?_⟩) ?_ ?_
            rotate_left
            · intro w'
              go_simp
              with_reducible rfl
            rotate_left
            · simp only [Act.put, sA, sB, sC, i64_w, i32_w]
              rfl
            refine pure_ (i := 2) (N := some 28) (v := ?_) (a' := ?_) #[true, false, true, false, false, false, false, false, false, false, false, false, false] rfl rfl (any_of HT_.out (by kernel_rfl)) (fun _ _ _ h => h) (Or.inl ⟨by rfl, ?_⟩) ?_ ?_
            rotate_left
            · intro w'
              go_simp
              with_reducible rfl
            rotate_left
            · simp only [Act.put, sA, sB, sC, i64_w, i32_w]
              rfl
            refine take_ (i := 1) (N := some 27) (v := ?_) (a' := ?_) #[true, true, true, false, false, false, false, false, false, false, false, false, false] rfl rfl (take_ofW HT_.out HW_.out (by kernel_rfl)) (fun _ _ _ h => h) (Or.inl ⟨by rfl, ?_⟩) hHeld ?_ ?_
            rotate_left
            · rintro w' ⟨s0, s1, s2, s3, s4, s5⟩
              go_simp
              with_reducible rfl
            rotate_left
            · simp only [Act.put, sA, sB, sC, i64_w, i32_w]
              rfl
            refine take_ (i := 3) (N := some 29) (v := ?_) (a' := ?_) #[true, true, true, true, false, false, false, false, false, false, false, false, false] rfl rfl (take_ofW HT_.out HW_.out (by kernel_rfl)) (fun _ _ _ h => h) (Or.inl ⟨by rfl, ?_⟩) hHeld ?_ ?_
            rotate_left
            · rintro w' ⟨s0, s1, s2, s3, s4, s5⟩
              go_simp
              with_reducible rfl
            rotate_left
            · simp only [Act.put, sA, sB, sC, i64_w, i32_w]
              rfl
            refine take_ (i := 4) (N := some 30) (v := ?_) (a' := ?_) #[true, true, true, true, true, false, false, false, false, false, false, false, false] rfl rfl (take_ofW HT_.out HW_.out (by kernel_rfl)) (fun _ _ _ h => h) (Or.inl ⟨by rfl, ?_⟩) hHeld ?_ ?_
            rotate_left
            · rintro w' ⟨s0, s1, s2, s3, s4, s5⟩
              go_simp
              with_reducible rfl
            rotate_left
            · simp only [Act.put, sA, sB, sC, i64_w, i32_w]
              rfl
            refine take_ (i := 8) (N := some 34) (v := ?_) (a' := ?_) #[true, true, true, true, true, false, false, false, true, false, false, false, false] rfl rfl (take_ofW HT_.out HW_.out (by kernel_rfl)) (fun _ _ _ h => h) (Or.inl ⟨by rfl, ?_⟩) hHeld ?_ ?_
            rotate_left
            · rintro w' ⟨s0, s1, s2, s3, s4, s5⟩
              go_simp
              with_reducible rfl
            rotate_left
            · simp only [Act.put, sA, sB, sC, i64_w, i32_w]
              rfl
            refine join_ (σ := Value × Value) 3 #[true, true, true, true, true, true, true, true, true, true, false, false, false] (fun s_ => [(31, .int .i64 t182), (33, s_.1), (35, s_.2), (32, .int .i64 (wrap64 (a0_1 - t182)))]) (fun s_ w' => (w'.cell? ⟨gb176, 0, none⟩ = some (.int .i64 a0_0) ∧ w'.cell? ⟨gb176, 1, none⟩ = some (.int .i64 a0_1) ∧ w'.cell? ⟨gb176, 2, none⟩ = some (.int .i64 a0_2) ∧ w'.cell? ⟨gb176, 3, none⟩ = some (.slice A0_3 l0_3.length c0_3) ∧ w'.cell? ⟨gb177, 0, none⟩ = some (.string a1_0) ∧ w'.cell? ⟨gb177, 1, none⟩ = some (.string a1_1)) ∧ (Kd.R k23 23 w' w.heap.size (fun k_ => some k_ ≠ (s_.2 : Value).ownBlock ∧ k_ ≠ gb177) s_.1 t183) ∧ (Kd.R k23 23 w' w.heap.size (fun k_ => some k_ ≠ (s_.1 : Value).ownBlock ∧ k_ ≠ gb177) s_.2 y186) ∧ (w'.heap[gb176]? = some (.cells #[.int .i64 a0_0, .int .i64 a0_1, .int .i64 a0_2, .slice A0_3 l0_3.length c0_3] 69 (0, 0))) ∧ (w'.heap[gb177]? = some (.cells #[.string a1_0, .string a1_1] 23 (0, 0))) ∧ (w'.heap[gb178]? = some (.cells #[.int .i64 0, .int .i64 0, .int .i64 0, .slice none 0 0] 69 (0, 0))) ∧ (Below w.heap.size w w')) ?_ ?_
            rotate_left
            · intro hCont
              refine two_ (i := 5) (j := 9) (Ni := some 31) (Nj := some 35) #[true, true, true, true, true, true, false, false, true, false, false, false, false] #[true, true, true, true, true, false, false, false, true, true, false, false, false] rfl rfl rfl rfl (two_of HT_.out (by kernel_rfl)) (by decide) (by decide) (fun K hK => ?_) (fun K hK => ?_)
              · skip
                refine goes_ Try.func112 (by kernel_rfl) rfl #[.agg #[.string a1_0, .string a1_1]] (by rfl) rfl rfl (by (try simp only [List.map_toArray, List.map_cons, List.map_nil]); first | done | rfl | (simp only [List.length_drop, List.length_take]; rfl)) ?_
                with_reducible refine (spec_l14Cost.calls a1_0 a1_1 t182 _ A41.out).mono ?_
                rintro e w47 ⟨rfl, hb⟩
                refine ⟨_, rfl, ?_⟩
                have n0_ := am (blk_below (bq BK176.out) hb)
                have n1_ := am (blk_below (bq BK177.out) hb)
                have n2_ := am (blk_below (bq BK178.out) hb)
                have n3_ := am (below_step (by repeat (with_reducible first | exact hq HB.out | refine bs ?_ GE176.out | refine bs ?_ GE177.out | refine bs ?_ GE178.out | refine us ?_)) hb)
                clear BK176
                clear BK177
                clear BK178
                clear HB
                have BK176 := n0_
                have BK177 := n1_
                have BK178 := n2_
                have HB := n3_
                clear n0_ n1_ n2_ n3_
                (try clear hb)
                (try clear hb2)
                (try clear hk)
                (try clear hi)
                refine hK.out _ _ ⟨bc BK176 0, bc BK176 1, bc BK176 2, bc BK176 3, bc BK177 0, bc BK177 1⟩ (fun hHeld => ?_)
                clear hK K
                refine norm_ (a' := ?_) ?_ ?_
                rotate_left
                · show Act.put _ (some 31) _ = _
                  simp only [Act.put, sA, sB, sC, i64_w, i32_w]
                  rfl
                refine pure_ (i := 6) (N := some 32) (v := ?_) (a' := ?_) #[true, true, true, true, true, true, true, false, true, false, false, false, false] rfl rfl (any_of HT_.out (by kernel_rfl)) (fun _ _ _ h => h) (Or.inl ⟨by rfl, ?_⟩) ?_ ?_
                rotate_left
                · intro w'
                  go_simp
                  with_reducible rfl
                rotate_left
                · simp only [Act.put, sA, sB, sC, i64_w, i32_w]
                  rfl
                refine two_ (i := 7) (j := 9) (Ni := some 33) (Nj := some 35) #[true, true, true, true, true, true, true, true, true, false, false, false, false] #[true, true, true, true, true, true, true, false, true, true, false, false, false] rfl rfl rfl rfl (two_of HT_.out (by kernel_rfl)) (by decide) (by decide) (fun K hK => ?_) (fun K hK => ?_)
                · skip
                  refine goes_ Try.func108 (by kernel_rfl) rfl #[.slice A0_3 l0_3.length c0_3, .int .i64 (wrap64 (a0_1 - t182))] (by rfl) rfl rfl (by (try simp only [List.map_toArray, List.map_cons, List.map_nil]); first | done | rfl | (simp only [List.length_drop, List.length_take]; rfl)) ?_
                  with_reducible refine (spec_l14Fit.calls kj2 _ _ l0_3 (wrap64 (a0_1 - t182)) t183 _ ?side1 ?side2 A42.out).mono ?_
                  (case side1 => repeat (first | exact (Kd.C_below HR0_3.out HB.out) | (with_reducible refine Kd.C_alloc ?_ _) | (with_reducible refine Kd.C_drewN ?_ _) | (with_reducible refine Kd.C_drew ?_)))
                  (case side2 => exact HC0_3.out)
                  rintro e w48 ⟨v184, rfl, ho0, hb⟩
                  refine ⟨_, rfl, ?_⟩
                  have n0_ := am (Kd.R_lower (Kd.R_newB ho0 (g := gb177) (o := .cells #[.string a1_0, .string a1_1] 23 (0, 0)) (bq BK177.out)) (below_size (by repeat (with_reducible first | exact hq HB.out | refine bs ?_ GE176.out | refine bs ?_ GE177.out | refine bs ?_ GE178.out | refine us ?_))))
                  have n1_ := am (blk_below (bq BK176.out) hb)
                  have n2_ := am (blk_below (bq BK177.out) hb)
                  have n3_ := am (blk_below (bq BK178.out) hb)
                  have n4_ := am (below_step (by repeat (with_reducible first | exact hq HB.out | refine bs ?_ GE176.out | refine bs ?_ GE177.out | refine bs ?_ GE178.out | refine us ?_)) hb)
                  clear BK176
                  clear BK177
                  clear BK178
                  clear HB
                  have HO185 := n0_
                  have BK176 := n1_
                  have BK177 := n2_
                  have BK178 := n3_
                  have HB := n4_
                  clear n0_ n1_ n2_ n3_ n4_
                  (try clear hb)
                  (try clear hb2)
                  (try clear hk)
                  (try clear hi)
                  (try clear ho0)
                  refine hK.out _ _ ⟨bc BK176 0, bc BK176 1, bc BK176 2, bc BK176 3, bc BK177 0, bc BK177 1⟩ (fun hHeld => ?_)
                  clear hK K
                  refine norm_ (a' := ?_) ?_ ?_
                  rotate_left
                  · show Act.put _ (some 33) _ = _
                    simp only [Act.put, sA, sB, sC, i64_w, i32_w]
                    rfl
                  refine one_ (i := 9) (N := some 35) #[true, true, true, true, true, true, true, true, true, true, false, false, false] rfl rfl (one_of HT_.out (by kernel_rfl)) (by decide) (fun K hK => ?_)
                  refine Kd.R_lit_step k23 _ 23 ?hg (N := 35) ?hd (xs := ([(⟨a1_0, a1_1⟩ : S23)] : List (S23))) (inner := [.string a1_0, .string a1_1]) (ok := fun _ => True) (okp := fun _ => True) ?hr ?hp (fun _ hk => hk) trivial (Below.refl _ _) (Nat.le_refl _) (by simp) ?_; (case hd => rfl); (case hg => rfl); (case hr => first | (go_simp; done) | (go_simp; rfl)); (case hp => exact (Reps.c2 (show Kd.M k23 _ _ _ (⟨a1_0, a1_1⟩ : S23) [.string a1_0, .string a1_1] from (k23_mkM _ _ _ (⟨a1_0, a1_1⟩ : S23) )) (Reps.none _ _)))
                  intro v187 w49 ho50 hb hg_ hnew_
                  clear hg_ hnew_
                  (first | rw [← Ny186.out] at ho50 | (simp only [Int.reduceToNat] at ho50; rw [← Ny186.out] at ho50))
                  have n0_ := am (Kd.R_elder' (rq HO185.out) (Kd.R_base ho50) hb)
                  have n1_ := am (Kd.R_lower (Kd.R_newB (Kd.R_new' ho50 (Kd.R_lt (rq HO185.out))) (g := gb177) (o := .cells #[.string a1_0, .string a1_1] 23 (0, 0)) (bq BK177.out)) (below_size (by repeat (with_reducible first | exact hq HB.out | refine bs ?_ GE176.out | refine bs ?_ GE177.out | refine bs ?_ GE178.out | refine us ?_))))
                  have n2_ := am (blk_below (bq BK176.out) hb)
                  have n3_ := am (blk_below (bq BK177.out) hb)
                  have n4_ := am (blk_below (bq BK178.out) hb)
                  have n5_ := am (below_step (by repeat (with_reducible first | exact hq HB.out | refine bs ?_ GE176.out | refine bs ?_ GE177.out | refine bs ?_ GE178.out | refine us ?_)) hb)
                  clear HO185
                  clear BK176
                  clear BK177
                  clear BK178
                  clear HB
                  have HO185 := n0_
                  have HO188 := n1_
                  have BK176 := n2_
                  have BK177 := n3_
                  have BK178 := n4_
                  have HB := n5_
                  clear n0_ n1_ n2_ n3_ n4_ n5_
                  clear hb ho50
                  refine hK.out _ _ ⟨bc BK176 0, bc BK176 1, bc BK176 2, bc BK176 3, bc BK177 0, bc BK177 1⟩ (fun hHeld => ?_)
                  clear hK K
                  refine norm_ (a' := ?_) ?_ ?_
                  rotate_left
                  · show Act.put _ (some 35) _ = _
                    simp only [Act.put, sA, sB, sC, i64_w, i32_w]
                    rfl
                  exact norm_ (by simp only [putAll, Act.put, sA, sB, sC]) (hCont (v184, v187) _ ⟨hHeld, (rq (Kd.R_mono HO185.out (fun _ hk => ⟨hk.2, hk.1.2⟩))), (rq (Kd.R_mono HO188.out (fun _ hk => ⟨hk.1.2, hk.2⟩))), (bq BK176.out), (bq BK177.out), (bq BK178.out), (by repeat (with_reducible first | exact hq HB.out | refine bs ?_ GE176.out | refine bs ?_ GE177.out | refine bs ?_ GE178.out | refine us ?_))⟩)
                · skip
                  refine Kd.R_lit_step k23 _ 23 ?hg (N := 35) ?hd (xs := ([(⟨a1_0, a1_1⟩ : S23)] : List (S23))) (inner := [.string a1_0, .string a1_1]) (ok := fun _ => True) (okp := fun _ => True) ?hr ?hp (fun _ hk => hk) trivial (Below.refl _ _) (Nat.le_refl _) (by simp) ?_; (case hd => rfl); (case hg => rfl); (case hr => first | (go_simp; done) | (go_simp; rfl)); (case hp => exact (Reps.c2 (show Kd.M k23 _ _ _ (⟨a1_0, a1_1⟩ : S23) [.string a1_0, .string a1_1] from (k23_mkM _ _ _ (⟨a1_0, a1_1⟩ : S23) )) (Reps.none _ _)))
                  intro v187 w48 ho49 hb hg_ hnew_
                  clear hg_ hnew_
                  (first | rw [← Ny186.out] at ho49 | (simp only [Int.reduceToNat] at ho49; rw [← Ny186.out] at ho49))
                  have n0_ := am (Kd.R_lower (Kd.R_newB ho49 (g := gb177) (o := .cells #[.string a1_0, .string a1_1] 23 (0, 0)) (bq BK177.out)) (below_size (by repeat (with_reducible first | exact hq HB.out | refine bs ?_ GE176.out | refine bs ?_ GE177.out | refine bs ?_ GE178.out | refine us ?_))))
                  have n1_ := am (blk_below (bq BK176.out) hb)
                  have n2_ := am (blk_below (bq BK177.out) hb)
                  have n3_ := am (blk_below (bq BK178.out) hb)
                  have n4_ := am (below_step (by repeat (with_reducible first | exact hq HB.out | refine bs ?_ GE176.out | refine bs ?_ GE177.out | refine bs ?_ GE178.out | refine us ?_)) hb)
                  clear BK176
                  clear BK177
                  clear BK178
                  clear HB
                  have HO188 := n0_
                  have BK176 := n1_
                  have BK177 := n2_
                  have BK178 := n3_
                  have HB := n4_
                  clear n0_ n1_ n2_ n3_ n4_
                  clear hb ho49
                  refine hK.out _ _ ⟨bc BK176 0, bc BK176 1, bc BK176 2, bc BK176 3, bc BK177 0, bc BK177 1⟩ (fun hHeld => ?_)
                  clear hK K
                  refine norm_ (a' := ?_) ?_ ?_
                  rotate_left
                  · show Act.put _ (some 35) _ = _
                    simp only [Act.put, sA, sB, sC, i64_w, i32_w]
                    rfl
                  refine one_ (i := 7) (N := some 33) #[true, true, true, true, true, true, true, true, true, true, false, false, false] rfl rfl (one_of HT_.out (by kernel_rfl)) (by decide) (fun K hK => ?_)
                  refine goes_ Try.func108 (by kernel_rfl) rfl #[.slice A0_3 l0_3.length c0_3, .int .i64 (wrap64 (a0_1 - t182))] (by rfl) rfl rfl (by (try simp only [List.map_toArray, List.map_cons, List.map_nil]); first | done | rfl | (simp only [List.length_drop, List.length_take]; rfl)) ?_
                  with_reducible refine (spec_l14Fit.calls kj2 _ _ l0_3 (wrap64 (a0_1 - t182)) t183 _ ?side1 ?side2 A42.out).mono ?_
                  (case side1 => repeat (first | exact (Kd.C_below HR0_3.out HB.out) | (with_reducible refine Kd.C_alloc ?_ _) | (with_reducible refine Kd.C_drewN ?_ _) | (with_reducible refine Kd.C_drew ?_)))
                  (case side2 => exact HC0_3.out)
                  rintro e w50 ⟨v184, rfl, ho0, hb⟩
                  refine ⟨_, rfl, ?_⟩
                  have n0_ := am (Kd.R_elder' (rq HO188.out) (Kd.R_base ho0) hb)
                  have n1_ := am (Kd.R_lower (Kd.R_newB (Kd.R_new' ho0 (Kd.R_lt (rq HO188.out))) (g := gb177) (o := .cells #[.string a1_0, .string a1_1] 23 (0, 0)) (bq BK177.out)) (below_size (by repeat (with_reducible first | exact hq HB.out | refine bs ?_ GE176.out | refine bs ?_ GE177.out | refine bs ?_ GE178.out | refine us ?_))))
                  have n2_ := am (blk_below (bq BK176.out) hb)
                  have n3_ := am (blk_below (bq BK177.out) hb)
                  have n4_ := am (blk_below (bq BK178.out) hb)
                  have n5_ := am (below_step (by repeat (with_reducible first | exact hq HB.out | refine bs ?_ GE176.out | refine bs ?_ GE177.out | refine bs ?_ GE178.out | refine us ?_)) hb)
                  clear HO188
                  clear BK176
                  clear BK177
                  clear BK178
                  clear HB
                  have HO188 := n0_
                  have HO185 := n1_
                  have BK176 := n2_
                  have BK177 := n3_
                  have BK178 := n4_
                  have HB := n5_
                  clear n0_ n1_ n2_ n3_ n4_ n5_
                  (try clear hb)
                  (try clear hb2)
                  (try clear hk)
                  (try clear hi)
                  (try clear ho0)
                  refine hK.out _ _ ⟨bc BK176 0, bc BK176 1, bc BK176 2, bc BK176 3, bc BK177 0, bc BK177 1⟩ (fun hHeld => ?_)
                  clear hK K
                  refine norm_ (a' := ?_) ?_ ?_
                  rotate_left
                  · show Act.put _ (some 33) _ = _
                    simp only [Act.put, sA, sB, sC, i64_w, i32_w]
                    rfl
                  exact norm_ (by simp only [putAll, Act.put, sA, sB, sC]) (hCont (v184, v187) _ ⟨hHeld, (rq (Kd.R_mono HO185.out (fun _ hk => ⟨hk.1.2, hk.2⟩))), (rq (Kd.R_mono HO188.out (fun _ hk => ⟨hk.2, hk.1.2⟩))), (bq BK176.out), (bq BK177.out), (bq BK178.out), (by repeat (with_reducible first | exact hq HB.out | refine bs ?_ GE176.out | refine bs ?_ GE177.out | refine bs ?_ GE178.out | refine us ?_))⟩)
              · skip
                refine Kd.R_lit_step k23 _ 23 ?hg (N := 35) ?hd (xs := ([(⟨a1_0, a1_1⟩ : S23)] : List (S23))) (inner := [.string a1_0, .string a1_1]) (ok := fun _ => True) (okp := fun _ => True) ?hr ?hp (fun _ hk => hk) trivial (Below.refl _ _) (Nat.le_refl _) (by simp) ?_; (case hd => rfl); (case hg => rfl); (case hr => first | (go_simp; done) | (go_simp; rfl)); (case hp => exact (Reps.c2 (show Kd.M k23 _ _ _ (⟨a1_0, a1_1⟩ : S23) [.string a1_0, .string a1_1] from (k23_mkM _ _ _ (⟨a1_0, a1_1⟩ : S23) )) (Reps.none _ _)))
                intro v187 w47 ho48 hb hg_ hnew_
                clear hg_ hnew_
                (first | rw [← Ny186.out] at ho48 | (simp only [Int.reduceToNat] at ho48; rw [← Ny186.out] at ho48))
                have n0_ := am (Kd.R_lower (Kd.R_newB ho48 (g := gb177) (o := .cells #[.string a1_0, .string a1_1] 23 (0, 0)) (bq BK177.out)) (below_size (by repeat (with_reducible first | exact hq HB.out | refine bs ?_ GE176.out | refine bs ?_ GE177.out | refine bs ?_ GE178.out | refine us ?_))))
                have n1_ := am (blk_below (bq BK176.out) hb)
                have n2_ := am (blk_below (bq BK177.out) hb)
                have n3_ := am (blk_below (bq BK178.out) hb)
                have n4_ := am (below_step (by repeat (with_reducible first | exact hq HB.out | refine bs ?_ GE176.out | refine bs ?_ GE177.out | refine bs ?_ GE178.out | refine us ?_)) hb)
                clear BK176
                clear BK177
                clear BK178
                clear HB
                have HO188 := n0_
                have BK176 := n1_
                have BK177 := n2_
                have BK178 := n3_
                have HB := n4_
                clear n0_ n1_ n2_ n3_ n4_
                clear hb ho48
                refine hK.out _ _ ⟨bc BK176 0, bc BK176 1, bc BK176 2, bc BK176 3, bc BK177 0, bc BK177 1⟩ (fun hHeld => ?_)
                clear hK K
                refine norm_ (a' := ?_) ?_ ?_
                rotate_left
                · show Act.put _ (some 35) _ = _
                  simp only [Act.put, sA, sB, sC, i64_w, i32_w]
                  rfl
                refine one_ (i := 5) (N := some 31) #[true, true, true, true, true, true, false, false, true, true, false, false, false] rfl rfl (one_of HT_.out (by kernel_rfl)) (by decide) (fun K hK => ?_)
                refine goes_ Try.func112 (by kernel_rfl) rfl #[.agg #[.string a1_0, .string a1_1]] (by rfl) rfl rfl (by (try simp only [List.map_toArray, List.map_cons, List.map_nil]); first | done | rfl | (simp only [List.length_drop, List.length_take]; rfl)) ?_
                with_reducible refine (spec_l14Cost.calls a1_0 a1_1 t182 _ A41.out).mono ?_
                rintro e w49 ⟨rfl, hb⟩
                refine ⟨_, rfl, ?_⟩
                have n0_ := am (Kd.R_below (rq HO188.out) hb)
                have n1_ := am (blk_below (bq BK176.out) hb)
                have n2_ := am (blk_below (bq BK177.out) hb)
                have n3_ := am (blk_below (bq BK178.out) hb)
                have n4_ := am (below_step (by repeat (with_reducible first | exact hq HB.out | refine bs ?_ GE176.out | refine bs ?_ GE177.out | refine bs ?_ GE178.out | refine us ?_)) hb)
                clear HO188
                clear BK176
                clear BK177
                clear BK178
                clear HB
                have HO188 := n0_
                have BK176 := n1_
                have BK177 := n2_
                have BK178 := n3_
                have HB := n4_
                clear n0_ n1_ n2_ n3_ n4_
                (try clear hb)
                (try clear hb2)
                (try clear hk)
                (try clear hi)
                refine hK.out _ _ ⟨bc BK176 0, bc BK176 1, bc BK176 2, bc BK176 3, bc BK177 0, bc BK177 1⟩ (fun hHeld => ?_)
                clear hK K
                refine norm_ (a' := ?_) ?_ ?_
                rotate_left
                · show Act.put _ (some 31) _ = _
                  simp only [Act.put, sA, sB, sC, i64_w, i32_w]
                  rfl
                refine pure_ (i := 6) (N := some 32) (v := ?_) (a' := ?_) #[true, true, true, true, true, true, true, false, true, true, false, false, false] rfl rfl (any_of HT_.out (by kernel_rfl)) (fun _ _ _ h => h) (Or.inl ⟨by rfl, ?_⟩) ?_ ?_
                rotate_left
                · intro w'
                  go_simp
                  with_reducible rfl
                rotate_left
                · simp only [Act.put, sA, sB, sC, i64_w, i32_w]
                  rfl
                refine one_ (i := 7) (N := some 33) #[true, true, true, true, true, true, true, true, true, true, false, false, false] rfl rfl (one_of HT_.out (by kernel_rfl)) (by decide) (fun K hK => ?_)
                refine goes_ Try.func108 (by kernel_rfl) rfl #[.slice A0_3 l0_3.length c0_3, .int .i64 (wrap64 (a0_1 - t182))] (by rfl) rfl rfl (by (try simp only [List.map_toArray, List.map_cons, List.map_nil]); first | done | rfl | (simp only [List.length_drop, List.length_take]; rfl)) ?_
                with_reducible refine (spec_l14Fit.calls kj2 _ _ l0_3 (wrap64 (a0_1 - t182)) t183 _ ?side1 ?side2 A42.out).mono ?_
                (case side1 => repeat (first | exact (Kd.C_below HR0_3.out HB.out) | (with_reducible refine Kd.C_alloc ?_ _) | (with_reducible refine Kd.C_drewN ?_ _) | (with_reducible refine Kd.C_drew ?_)))
                (case side2 => exact HC0_3.out)
                rintro e w50 ⟨v184, rfl, ho0, hb⟩
                refine ⟨_, rfl, ?_⟩
                have n0_ := am (Kd.R_elder' (rq HO188.out) (Kd.R_base ho0) hb)
                have n1_ := am (Kd.R_lower (Kd.R_newB (Kd.R_new' ho0 (Kd.R_lt (rq HO188.out))) (g := gb177) (o := .cells #[.string a1_0, .string a1_1] 23 (0, 0)) (bq BK177.out)) (below_size (by repeat (with_reducible first | exact hq HB.out | refine bs ?_ GE176.out | refine bs ?_ GE177.out | refine bs ?_ GE178.out | refine us ?_))))
                have n2_ := am (blk_below (bq BK176.out) hb)
                have n3_ := am (blk_below (bq BK177.out) hb)
                have n4_ := am (blk_below (bq BK178.out) hb)
                have n5_ := am (below_step (by repeat (with_reducible first | exact hq HB.out | refine bs ?_ GE176.out | refine bs ?_ GE177.out | refine bs ?_ GE178.out | refine us ?_)) hb)
                clear HO188
                clear BK176
                clear BK177
                clear BK178
                clear HB
                have HO188 := n0_
                have HO185 := n1_
                have BK176 := n2_
                have BK177 := n3_
                have BK178 := n4_
                have HB := n5_
                clear n0_ n1_ n2_ n3_ n4_ n5_
                (try clear hb)
                (try clear hb2)
                (try clear hk)
                (try clear hi)
                (try clear ho0)
                refine hK.out _ _ ⟨bc BK176 0, bc BK176 1, bc BK176 2, bc BK176 3, bc BK177 0, bc BK177 1⟩ (fun hHeld => ?_)
                clear hK K
                refine norm_ (a' := ?_) ?_ ?_
                rotate_left
                · show Act.put _ (some 33) _ = _
                  simp only [Act.put, sA, sB, sC, i64_w, i32_w]
                  rfl
                exact norm_ (by simp only [putAll, Act.put, sA, sB, sC]) (hCont (v184, v187) _ ⟨hHeld, (rq (Kd.R_mono HO185.out (fun _ hk => ⟨hk.1.2, hk.2⟩))), (rq (Kd.R_mono HO188.out (fun _ hk => ⟨hk.2, hk.1.2⟩))), (bq BK176.out), (bq BK177.out), (bq BK178.out), (by repeat (with_reducible first | exact hq HB.out | refine bs ?_ GE176.out | refine bs ?_ GE177.out | refine bs ?_ GE178.out | refine us ?_))⟩)
            rintro ⟨v184, v187⟩ w51 ⟨hS_, h0_, h1_, h2_, h3_, h4_, h5_⟩
            have n0_ : Aside0 (Kd.R k23 23 w51 w.heap.size (fun k_ => some k_ ≠ (v187 : Value).ownBlock ∧ k_ ≠ gb177) v184 t183) := ⟨h0_⟩
            have n1_ : Aside0 (Kd.R k23 23 w51 w.heap.size (fun k_ => some k_ ≠ (v184 : Value).ownBlock ∧ k_ ≠ gb177) v187 y186) := ⟨h1_⟩
            have n2_ : Aside0 (w51.heap[gb176]? = some (.cells #[.int .i64 a0_0, .int .i64 a0_1, .int .i64 a0_2, .slice A0_3 l0_3.length c0_3] 69 (0, 0))) := ⟨h2_⟩
            have n3_ : Aside0 (w51.heap[gb177]? = some (.cells #[.string a1_0, .string a1_1] 23 (0, 0))) := ⟨h3_⟩
            have n4_ : Aside0 (w51.heap[gb178]? = some (.cells #[.int .i64 0, .int .i64 0, .int .i64 0, .slice none 0 0] 69 (0, 0))) := ⟨h4_⟩
            have n5_ : Aside0 (Below w.heap.size w w51) := ⟨h5_⟩
            clear BK176
            clear BK177
            clear BK178
            clear HB
            clear h0_ h1_ h2_ h3_ h4_ h5_
            have HO185 := n0_
            have HO188 := n1_
            have BK176 := n2_
            have BK177 := n3_
            have BK178 := n4_
            have HB := n5_
            clear n0_ n1_ n2_ n3_ n4_ n5_
            have hHeld : w51.cell? ⟨gb176, 0, none⟩ = some (.int .i64 a0_0) ∧ w51.cell? ⟨gb176, 1, none⟩ = some (.int .i64 a0_1) ∧ w51.cell? ⟨gb176, 2, none⟩ = some (.int .i64 a0_2) ∧ w51.cell? ⟨gb176, 3, none⟩ = some (.slice A0_3 l0_3.length c0_3) ∧ w51.cell? ⟨gb177, 0, none⟩ = some (.string a1_0) ∧ w51.cell? ⟨gb177, 1, none⟩ = some (.string a1_1) := hS_
            obtain ⟨Ao53, co53, eo53⟩ := Kd.R_slice HO188.out
            (first | subst eo53 | (injection eo53 with f1_ f2_ f3_; have f4_ := f1_.symm; have f5_ := f3_.symm; clear f1_ f2_ f3_; subst f4_; subst f5_))
            refine norm_ (a' := ?_) ?_ ?_
            rotate_left
            · simp only [putAll, Act.put, sA, sB, sC]
              rfl
            refine one_ (i := 10) (N := some 36) #[true, true, true, true, true, true, true, true, true, true, true, false, false] rfl rfl (one_of HT_.out (by kernel_rfl)) (by decide) (fun K hK => ?_)
            refine Kd.R_append_rows_step k23 (w0 := w) w.heap.size (by rfl) (.tmp 33) (.tmp 35) 67 23 (.agg #[(.string ⟨#[]⟩), (.string ⟨#[]⟩)]) 32 rfl Try.underlying67 info23 rfl (by decide) (by omega) v184 t183 y186 _ _ _ (fun k_ => some k_ ≠ (.slice Ao53 y186.length co53 : Value).ownBlock ∧ k_ ≠ gb177) (fun _ => False) rfl rfl ?aO ?aR (fun _ _ h => h) (fun _ h => h.elim) ?aF ?aB ?aS ?aL ?_
            (case aR => exact cq HO188)
            (case aB => exact (by repeat (with_reducible first | exact hq HB.out | refine bs ?_ GE176.out | refine bs ?_ GE177.out | refine bs ?_ GE178.out | refine us ?_)))
            (case aF => exact (fun k_ hk => ⟨Kd.fresh' (Kd.R_lt (rq HO188.out)) k_ hk, Kd.freshB (g := gb177) (o := .cells #[.string a1_0, .string a1_1] 23 (0, 0)) (bq BK177.out) k_ hk⟩))
            (case aO => exact (rq HO185.out))
            (case aS => exact (below_size (by repeat (with_reducible first | exact hq HB.out | refine bs ?_ GE176.out | refine bs ?_ GE177.out | refine bs ?_ GE178.out | refine us ?_))))
            (case aL => have := LMc43.out; omega)
            intro v190 w52 ho hb hg hat
            rw [← Ny189.out] at ho
            have n0_ := am (blk_grown (g := gb176) (o := .cells #[.int .i64 a0_0, .int .i64 a0_1, .int .i64 a0_2, .slice A0_3 l0_3.length c0_3] 69 (0, 0)) (bq BK176.out) hg (Kd.R_ne HO185.out BK176.out (by decide)))
            have n1_ := am (blk_grown (g := gb177) (o := .cells #[.string a1_0, .string a1_1] 23 (0, 0)) (bq BK177.out) hg (Kd.R_away HO185.out (fun _ hk => hk.2)))
            have n2_ := am (blk_grown (g := gb178) (o := .cells #[.int .i64 0, .int .i64 0, .int .i64 0, .slice none 0 0] 69 (0, 0)) (bq BK178.out) hg (Kd.R_ne HO185.out BK178.out (by decide)))
            have n3_ := am (Kd.R_after (ok := (fun k_ => k_ ≠ gb177)) (rq (Kd.R_mono HO188.out (fun _ hk => ⟨hk.2, hk.1⟩))) hg hat)
            have n4_ := am (hb)
            have n5_ := am (ho)
            clear BK176
            clear BK177
            clear BK178
            clear HO188
            clear HB
            clear HO185
            have BK176 := n0_
            have BK177 := n1_
            have BK178 := n2_
            have HO188 := n3_
            have HB := n4_
            have HO191 := n5_
            clear n0_ n1_ n2_ n3_ n4_ n5_
            clear ho hb hg hat
            obtain ⟨Ao54, co54, eo54⟩ := Kd.R_slice HO191.out
            (first | subst eo54 | (injection eo54 with f1_ f2_ f3_; have f4_ := f1_.symm; have f5_ := f3_.symm; clear f1_ f2_ f3_; subst f4_; subst f5_))
            refine hK.out _ _ ⟨bc BK176 0, bc BK176 1, bc BK176 2, bc BK176 3, bc BK177 0, bc BK177 1⟩ (fun hHeld => ?_)
            clear hK K
            refine norm_ (a' := ?_) ?_ ?_
            rotate_left
            · show Act.put _ (some 36) _ = _
              simp only [Act.put, sA, sB, sC, i64_w, i32_w]
              rfl
            refine pure_ (i := 11) (N := some 37) (v := ?_) (a' := ?_) #[true, true, true, true, true, true, true, true, true, true, true, true, false] rfl rfl (any_of HT_.out (by kernel_rfl)) (fun _ _ _ h => h) (Or.inl ⟨by rfl, ?_⟩) ?_ ?_
            rotate_left
            · intro w'
              go_simp
              with_reducible rfl
            rotate_left
            · simp only [Act.put, sA, sB, sC, i64_w, i32_w]
              rfl
            refine last_ (i := 12) (N := none) #[true, true, true, true, true, true, true, true, true, true, true, true, true] rfl rfl (one_of HT_.out (by kernel_rfl)) (by decide) (fun K hK => ?_)
            have hs55 : w52.cell? ⟨gb176, 3, none⟩ = some (.slice A0_3 l0_3.length c0_3) := bc BK176 3
            have hfs55 := blk_frozen BK176.out 3
            have hns55_1 := NB177_176.out
            have hns55_2 := NB178_176.out
            have hms55_1 := NB176_177.out
            have hms55_2 := NB176_178.out
            refine skip_ (w1 := ?_) (by rfl) rfl ?_ ?_
            rotate_left
            · go_simp
              rfl
            refine hK.out _ _ ?_
            clear hK K
            refine done_ (done_of HT_.out (by kernel_rfl)) ?_
            have hnb56 := NB176_177.out
            have hnc56 := NB177_176.out
            have hnb57 := NB176_178.out
            have hnc57 := NB178_176.out
            have hcz58_0 : w52.cell? ⟨gb176, 0, none⟩ = some (.int .i64 a0_0) := bc BK176 0
            have hcz58_1 : w52.cell? ⟨gb176, 1, none⟩ = some (.int .i64 a0_1) := bc BK176 1
            have hcz58_2 : w52.cell? ⟨gb176, 2, none⟩ = some (.int .i64 a0_2) := bc BK176 2
            have hcz58_3 : w52.cell? ⟨gb176, 3, none⟩ = some (.slice A0_3 l0_3.length c0_3) := bc BK176 3
            have hfz58_0 := blk_frozen BK176.out 0
            have hfz58_1 := blk_frozen BK176.out 1
            have hfz58_2 := blk_frozen BK176.out 2
            have hfz58_3 := blk_frozen BK176.out 3
            have hnb59 := NB178_177.out
            have hnc59 := NB177_178.out
            have hcz60_0 : w52.cell? ⟨gb178, 0, none⟩ = some (.int .i64 0) := bc BK178 0
            have hcz60_1 : w52.cell? ⟨gb178, 1, none⟩ = some (.int .i64 0) := bc BK178 1
            have hcz60_2 : w52.cell? ⟨gb178, 2, none⟩ = some (.int .i64 0) := bc BK178 2
            have hcz60_3 : w52.cell? ⟨gb178, 3, none⟩ = some (.slice none 0 0) := bc BK178 3
            have hfz60_0 := blk_frozen BK178.out 0
            have hfz60_1 := blk_frozen BK178.out 1
            have hfz60_2 := blk_frozen BK178.out 2
            have hfz60_3 := blk_frozen BK178.out 3
            try go_wp2
            refine bodyPost_ret (results_ct rfl _ _ gb178 69 #[.int .i64 a0_0, .int .i64 a0_1, .int .i64 (wrap64 (a0_2 + 1)), .slice Ao54 y189.length co54] (0, 0) _ rfl (bu (blk_put (cs := #[.int .i64 a0_0, .int .i64 a0_1, .int .i64 (wrap64 (a0_2 + 1)), .slice none 0 0]) (bu (blk_put (cs := #[.int .i64 a0_0, .int .i64 a0_1, .int .i64 0, .slice none 0 0]) (bu (blk_put (cs := #[.int .i64 a0_0, .int .i64 0, .int .i64 0, .slice none 0 0]) (bu (blk_put (cs := #[.int .i64 0, .int .i64 0, .int .i64 0, .slice none 0 0]) (bu (blk_far (bu (blk_far (bq BK178.out) NB178_176.out _)) NB178_176.out _)) 0 _ rfl)) 1 _ rfl)) 2 _ rfl)) 3 _ rfl)) Try.underlying69 rfl (by kernel_rfl)) rfl ?_
            exact ⟨_, by first | rfl | (simp [errW_none, errW_some] <;> rfl) | (simp [*, errW_none, errW_some] <;> rfl), by (with_reducible repeat (first | apply Kd.R_alloc | apply Kd.R_drewN | apply Kd.R_drew)); exact Kd.R_mono (Kd.R_far (p := ⟨gb178, 3, none⟩) (Kd.R_far (p := ⟨gb178, 2, none⟩) (Kd.R_far (p := ⟨gb178, 1, none⟩) (Kd.R_far (p := ⟨gb178, 0, none⟩) (Kd.R_far (p := ⟨gb176, 2, none⟩) (Kd.R_far (p := ⟨gb176, 3, none⟩) (Kd.R_types (Kd.R_types HO191.out BK176.out (by decide)) BK178.out (by decide)) (fun _ hk => hk.1.2) (.slice Ao54 y189.length co54)) (fun _ hk => hk.1.2) (.int .i64 (wrap64 (a0_2 + 1)))) (fun _ hk => hk.2) (.int .i64 a0_0)) (fun _ hk => hk.2) (.int .i64 a0_1)) (fun _ hk => hk.2) (.int .i64 (wrap64 (a0_2 + 1)))) (fun _ hk => hk.2) (.slice Ao54 y189.length co54)) (fun _ hk => trivial), by repeat (with_reducible first | exact hq HB.out | refine bs ?_ GE176.out | refine bs ?_ GE177.out | refine bs ?_ GE178.out | refine us ?_)⟩
          · rw [if_neg c43] at H
            exact absurd H (by simp)

end Go.Proofs.Ytjhcphcjpndciaa.PFnExactTableAdd
