-- Written by a program of this repo (xprint.py) out of the translation; Lean checks it. SHRUNK
import Derived.Test.YtjhcphcjpndciaaPFnExactTableAddx0
import Derived.Test.YtjhcphcjpndciaaPFnExactTableAddx7
import Derived.Test.YtjhcphcjpndciaaPFnExactTableAddx8
namespace Go.Proofs.Ytjhcphcjpndciaa.PFnExactTableAdd
open Go.RowKit Go.Proofs.YtjhcphcjpndciaaW.PrintWords Go.Proofs.YtjhcphcjpndciaaW.PrintLast Go.Proofs.YtjhcphcjpndciaaW.PrintMore
attribute [local go_sem] max2_int min2_int max_two min_two max_three min_three max_four min_four   -- for this text's walks alone
set_option linter.unusedVariables false
set_option linter.unusedSimpArgs false

/-! ### impl_TableAdd: function 52 -/
def impl_TableAdd.j0 : Nat → Bool → Int → Int → Int → List (S23) → ByteArray → ByteArray → Option (Int × Int × Int × (List (S23)) × Int)
  | 0, _, _, _, _, _, _, _ => none
  | k + 1, x18, x222000, x222001, x222002, x222003, x223000, x223001 => if x18 = true then (some (0, 0, 0, ([] : List (S23)), 1)) else ((impl_costOf.f x223000 x223001).bind fun t226 => (if t226 > x222001 then (some (0, 0, 0, ([] : List (S23)), 16)) else ((impl_costOf.f x223000 x223001).bind fun t227 => ((impl_Table_fitted.f k x222000 x222001 x222002 x222003 t227).bind fun bt228 => (if bt228.2.2.2.length < 4398046511104 then (some (bt228.1, bt228.2.1, wrap64 (bt228.2.2.1 + 1), (bt228.2.2.2 ++ [(⟨x223000, x223001⟩ : S23)]), 0)) else (none))))))
def impl_TableAdd.f (k : Nat) (a0_0 : Int) (a0_1 : Int) (a0_2 : Int) (l0_3 : List (S23)) (a1_0 : ByteArray) (a1_1 : ByteArray) : Option (Int × Int × Int × (List (S23)) × Int) := (impl_TableOK.f k a0_0 a0_1 a0_2 l0_3).bind fun t224 => (if t224 = true then ((impl_fieldOK.f k a1_0 a1_1).bind fun t225 => (if t225 = true then (impl_TableAdd.j0 k (a0_2 == 4611686018427387902) a0_0 a0_1 a0_2 l0_3 a1_0 a1_1) else (impl_TableAdd.j0 k true a0_0 a0_1 a0_2 l0_3 a1_0 a1_1))) else (impl_TableAdd.j0 k true a0_0 a0_1 a0_2 l0_3 a1_0 a1_1))
theorem impl_TableAdd.mono_l : ∀ k, (∀ y0 y1 y2 y3 y4 y5 y6, LeO (impl_TableAdd.j0 k y0 y1 y2 y3 y4 y5 y6) (impl_TableAdd.j0 (k + 1) y0 y1 y2 y3 y4 y5 y6))
  | 0 => fun _ _ _ _ _ _ _ r h => by simp [impl_TableAdd.j0] at h
  | k + 1 => by
    have ih0 := impl_TableAdd.mono_l k
    · intro y0 y1 y2 y3 y4 y5 y6
      unfold impl_TableAdd.j0
      repeat' first
      | (with_reducible exact ih0 _ _ _ _ _ _ _)
      | (with_reducible exact impl_TableOK.mono _ _ _ _ _)
      | (with_reducible exact impl_Table_fitted.mono _ _ _ _ _ _)
      | (with_reducible exact impl_fieldOK.mono _ _ _)
      | (with_reducible exact LeO.refl _)
      | (with_reducible exact LeO.none _)
      | (with_reducible refine LeO.ite ?_ ?_)
      | (with_reducible refine LeO.bind ?_ (fun _ => ?_))
      | exact ih0 _ _ _ _ _ _ _
      | exact impl_TableOK.mono _ _ _ _ _
      | exact impl_Table_fitted.mono _ _ _ _ _ _
      | exact impl_fieldOK.mono _ _ _
      | exact LeO.none _
      | refine LeO.ite ?_ ?_
      | refine LeO.bind ?_ (fun _ => ?_)
theorem impl_TableAdd.mono : ∀ a0 a1 a2 a3 a4 a5 k, LeO (impl_TableAdd.f k a0 a1 a2 a3 a4 a5) (impl_TableAdd.f (k + 1) a0 a1 a2 a3 a4 a5) := by
  intro a0 a1 a2 a3 a4 a5 k
  have ih0 := impl_TableAdd.mono_l k
  unfold impl_TableAdd.f
  repeat' first
      | (with_reducible exact ih0 _ _ _ _ _ _ _)
      | (with_reducible exact impl_TableOK.mono _ _ _ _ _)
      | (with_reducible exact impl_Table_fitted.mono _ _ _ _ _ _)
      | (with_reducible exact impl_fieldOK.mono _ _ _)
      | (with_reducible exact LeO.refl _)
      | (with_reducible exact LeO.none _)
      | (with_reducible refine LeO.ite ?_ ?_)
      | (with_reducible refine LeO.bind ?_ (fun _ => ?_))
      | exact ih0 _ _ _ _ _ _ _
      | exact impl_TableOK.mono _ _ _ _ _
      | exact impl_Table_fitted.mono _ _ _ _ _ _
      | exact impl_fieldOK.mono _ _ _
      | exact LeO.none _
      | refine LeO.ite ?_ ?_
      | refine LeO.bind ?_ (fun _ => ?_)
set_option maxHeartbeats 8000000 in
set_option maxRecDepth 100000 in
theorem impl_TableAdd.calls (k : Nat) (a0_0 : Int) (a0_1 : Int) (a0_2 : Int) (A0_3 : Option Addr) (c0_3 : Nat) (l0_3 : List (S23)) (a1_0 : ByteArray) (a1_1 : ByteArray) (r1 : Int) (r2 : Int) (r3 : Int) (r4 : List (S23)) (r5 : Int) (w : World) (hr0_3 : Kd.C k23 w A0_3 l0_3.length l0_3) (hc0_3 : l0_3.length ≤ c0_3) (h : impl_TableAdd.f k a0_0 a0_1 a0_2 l0_3 a1_0 a1_1 = some (r1, r2, r3, r4, r5)) :
    Calls Try.prog 52 #[.agg #[.int .i64 a0_0, .int .i64 a0_1, .int .i64 a0_2, .slice A0_3 l0_3.length c0_3], .agg #[.string a1_0, .string a1_1]] w fun e w' => ∃ v3_ : Value, e = .returned (.tuple #[.agg #[.int .i64 r1, .int .i64 r2, .int .i64 r3, v3_], .int .i64 r5]) ∧ Kd.R k23 23 w' w.heap.size (fun _ => True) v3_ r4 ∧ Below w.heap.size w w' := by
  have hu69 := Try.underlying69
  have hu23 := Try.underlying23
  have HR0_3 := Aside0.mk hr0_3
  have HC0_3 := Aside0.mk hc0_3
  clear hr0_3 hc0_3
  have HB := am (Below.refl w.heap.size w)
  have H : ((impl_TableOK.f k a0_0 a0_1 a0_2 l0_3).bind fun t224 => (if t224 = true then ((impl_fieldOK.f k a1_0 a1_1).bind fun t225 => (if t225 = true then (impl_TableAdd.j0 k (a0_2 == 4611686018427387902) a0_0 a0_1 a0_2 l0_3 a1_0 a1_1) else (impl_TableAdd.j0 k true a0_0 a0_1 a0_2 l0_3 a1_0 a1_1))) else (impl_TableAdd.j0 k true a0_0 a0_1 a0_2 l0_3 a1_0 a1_1))) = some (r1, r2, r3, r4, r5) := h
  clear h
  have HC3 := Aside0.mk H
  clear H
  go_enter Try.func52, Try.ntmps52
  go_upto_region 1 with (first | ((with_reducible refine gate_dst (N := 2) rfl ?_); refine box_event ?hg (N := 2) ?hd (cs := #[.int .i64 a0_0, .int .i64 a0_1, .int .i64 a0_2, .slice A0_3 l0_3.length c0_3]) (t := 69) ?hr ?_; (case hd => rfl); (case hg => rfl); (case hr => first | (go_simp; done) | (go_simp; rfl)); intro gb221 hg w4 hbox hb; have BK221 := am (hbox); have GW221 := am ((by rw [hg]; exact (below_size (hq HB.out)) : w.heap.size ≤ gb221)); have GE221 := GW221; replace HB := am (below_step (hq HB.out) hb); clear hb hbox hg) | ((with_reducible refine gate_dst (N := 3) rfl ?_); refine box_event ?hg (N := 3) ?hd (cs := #[.string a1_0, .string a1_1]) (t := 23) ?hr ?_; (case hd => rfl); (case hg => rfl); (case hr => first | (go_simp; done) | (go_simp; rfl)); intro gb222 hg w5 hbox hb; have BK222 := am (hbox); have GW222 := am ((by rw [hg]; exact (below_size (by repeat (with_reducible first | exact hq HB.out | refine bs ?_ GE221.out | refine us ?_))) : w.heap.size ≤ gb222)); have GE222 := GW222; have NB221_222 := am ((by rw [hg]; exact Nat.ne_of_lt (blk_lt (bq BK221.out)) : gb221 ≠ gb222)); have NB222_221 := am ((by rw [hg]; exact Nat.ne_of_gt (blk_lt (bq BK221.out)) : gb222 ≠ gb221)); replace BK221 := am (blk_below (bq BK221.out) hb); replace HB := am (below_step (by repeat (with_reducible first | exact hq HB.out | refine bs ?_ GE221.out | refine us ?_)) hb); clear hb hbox hg) | ((with_reducible refine gate_dst (N := 4) rfl ?_); refine box_event ?hg (N := 4) ?hd (cs := #[.int .i64 0, .int .i64 0, .int .i64 0, .slice none 0 0]) (t := 69) ?hr ?_; (case hd => rfl); (case hg => rfl); (case hr => first | (go_simp; done) | (go_simp; rfl)); intro gb223 hg w6 hbox hb; have BK223 := am (hbox); have GW223 := am ((by rw [hg]; exact (below_size (by repeat (with_reducible first | exact hq HB.out | refine bs ?_ GE221.out | refine bs ?_ GE222.out | refine us ?_))) : w.heap.size ≤ gb223)); have GE223 := GW223; have NB221_223 := am ((by rw [hg]; exact Nat.ne_of_lt (blk_lt (bq BK221.out)) : gb221 ≠ gb223)); have NB223_221 := am ((by rw [hg]; exact Nat.ne_of_gt (blk_lt (bq BK221.out)) : gb223 ≠ gb221)); have NB222_223 := am ((by rw [hg]; exact Nat.ne_of_lt (blk_lt (bq BK222.out)) : gb222 ≠ gb223)); have NB223_222 := am ((by rw [hg]; exact Nat.ne_of_gt (blk_lt (bq BK222.out)) : gb223 ≠ gb222)); replace BK221 := am (blk_below (bq BK221.out) hb); replace BK222 := am (blk_below (bq BK222.out) hb); replace HB := am (below_step (by repeat (with_reducible first | exact hq HB.out | refine bs ?_ GE221.out | refine bs ?_ GE222.out | refine us ?_)) hb); clear hb hbox hg))
  (try simp only [Act.put, sA, sB, sC])
  go_cut [18] (fun v18 wc => ∃ (kq : Nat) (x18_2 : Bool), v18 = .bool x18_2 ∧ Aside0 (impl_TableAdd.j0 kq x18_2 a0_0 a0_1 a0_2 l0_3 a1_0 a1_1 = some (r1, r2, r3, r4, r5)) ∧ Aside0 (kq ≤ k) ∧ Aside0 (wc.heap[gb221]? = some (.cells #[.int .i64 a0_0, .int .i64 a0_1, .int .i64 a0_2, (.slice A0_3 l0_3.length c0_3)] 69 (0, 0))) ∧ Aside0 (wc.heap[gb222]? = some (.cells #[.string a1_0, .string a1_1] 23 (0, 0))) ∧ Aside0 (wc.heap[gb223]? = some (.cells #[.int .i64 0, .int .i64 0, .int .i64 0, (.slice none 0 0)] 69 (0, 0))) ∧ Aside0 (Below w.heap.size w wc))
  case first =>
    have H := HC3.out
    clear HC3
    replace H := Option.bind_eq_some_iff.mp H
    obtain ⟨t224, A70, H⟩ := H
    replace H : (if t224 = true then ((impl_fieldOK.f k a1_0 a1_1).bind fun t225 => (if t225 = true then (impl_TableAdd.j0 k (a0_2 == 4611686018427387902) a0_0 a0_1 a0_2 l0_3 a1_0 a1_1) else (impl_TableAdd.j0 k true a0_0 a0_1 a0_2 l0_3 a1_0 a1_1))) else (impl_TableAdd.j0 k true a0_0 a0_1 a0_2 l0_3 a1_0 a1_1)) = some (r1, r2, r3, r4, r5) := H
    have A7 := Aside0.mk A70
    clear A70
    by_cases c8 : t224 = true
    · subst c8
      have H1 : ((impl_fieldOK.f k a1_0 a1_1).bind fun t225 => (if t225 = true then (impl_TableAdd.j0 k (a0_2 == 4611686018427387902) a0_0 a0_1 a0_2 l0_3 a1_0 a1_1) else (impl_TableAdd.j0 k true a0_0 a0_1 a0_2 l0_3 a1_0 a1_1))) = some (r1, r2, r3, r4, r5) := by rw [if_pos rfl] at H; exact H
      clear H
      have H := H1
      clear H1
      replace H := Option.bind_eq_some_iff.mp H
      obtain ⟨t225, A90, H⟩ := H
      replace H : (if t225 = true then (impl_TableAdd.j0 k (a0_2 == 4611686018427387902) a0_0 a0_1 a0_2 l0_3 a1_0 a1_1) else (impl_TableAdd.j0 k true a0_0 a0_1 a0_2 l0_3 a1_0 a1_1)) = some (r1, r2, r3, r4, r5) := H
      have A9 := Aside0.mk A90
      clear A90
      by_cases c10 : t225 = true
      · subst c10
        have H1 : (impl_TableAdd.j0 k (a0_2 == 4611686018427387902) a0_0 a0_1 a0_2 l0_3 a1_0 a1_1) = some (r1, r2, r3, r4, r5) := by rw [if_pos rfl] at H; exact H
        clear H
        have H := H1
        clear H1
        have H' := Aside0.mk H
        clear H
        have hnb11 := NB221_222.out
        have hnc11 := NB222_221.out
        have hnb12 := NB221_223.out
        have hnc12 := NB223_221.out
        have hcz13_0 : w6.cell? ⟨gb221, 0, none⟩ = some (.int .i64 a0_0) := bc BK221 0
        have hcz13_1 : w6.cell? ⟨gb221, 1, none⟩ = some (.int .i64 a0_1) := bc BK221 1
        have hcz13_2 : w6.cell? ⟨gb221, 2, none⟩ = some (.int .i64 a0_2) := bc BK221 2
        have hcz13_3 : w6.cell? ⟨gb221, 3, none⟩ = some (.slice A0_3 l0_3.length c0_3) := bc BK221 3
        have hfz13_0 := blk_frozen BK221.out 0
        have hfz13_1 := blk_frozen BK221.out 1
        have hfz13_2 := blk_frozen BK221.out 2
        have hfz13_3 := blk_frozen BK221.out 3
        go_wp2_with (first | ((with_reducible refine gate_callee (f := 41) rfl ?_); refine goesL_ (some 7) rfl rfl Try.func41 (by kernel_rfl) rfl #[.agg #[.int .i64 a0_0, .int .i64 a0_1, .int .i64 a0_2, .slice A0_3 l0_3.length c0_3]] rfl (by (try simp only [List.map_toArray, List.map_cons, List.map_nil]); first | done | rfl | (simp only [List.length_drop, List.length_take]; rfl)) ?_; (with_reducible refine (impl_TableOK.calls k a0_0 a0_1 a0_2 _ _ l0_3 true _ ?side1 ?side2 A7.out).mono ?_); (case side1 => repeat (first | exact (Kd.C_below HR0_3.out HB.out) | (with_reducible refine Kd.C_alloc ?_ _) | (with_reducible refine Kd.C_drewN ?_ _) | (with_reducible refine Kd.C_drew ?_))); (case side2 => exact HC0_3.out); rintro e w14 ⟨rfl, hb⟩; refine ⟨_, rfl, ?_⟩; replace BK221 := am (blk_below (bq BK221.out) hb); replace BK222 := am (blk_below (bq BK222.out) hb); replace BK223 := am (blk_below (bq BK223.out) hb); replace HB := am (below_step (by repeat (with_reducible first | exact hq HB.out | refine bs ?_ GE221.out | refine bs ?_ GE222.out | refine bs ?_ GE223.out | refine us ?_)) hb); (try clear hb); (try clear hb2); (try clear hk); (try clear hi); have hnb15 := NB222_223.out; have hnc15 := NB223_222.out; have hcz16_0 : w14.cell? ⟨gb222, 0, none⟩ = some (.string a1_0) := bc BK222 0; have hcz16_1 : w14.cell? ⟨gb222, 1, none⟩ = some (.string a1_1) := bc BK222 1; have hfz16_0 := blk_frozen BK222.out 0; have hfz16_1 := blk_frozen BK222.out 1) | (go_at_call 104; (with_reducible refine (impl_fieldOK.calls k a1_0 a1_1 true _ A9.out).mono ?_); rintro e w17 ⟨rfl, hb⟩; replace BK221 := am (blk_below (bq BK221.out) hb); replace BK222 := am (blk_below (bq BK222.out) hb); replace BK223 := am (blk_below (bq BK223.out) hb); replace HB := am (below_step (by repeat (with_reducible first | exact hq HB.out | refine bs ?_ GE221.out | refine bs ?_ GE222.out | refine bs ?_ GE223.out | refine us ?_)) hb); (try clear hb); (try clear hb2); (try clear hk); (try clear hi); have hcz18_0 : w17.cell? ⟨gb221, 0, none⟩ = some (.int .i64 a0_0) := bc BK221 0; have hcz18_1 : w17.cell? ⟨gb221, 1, none⟩ = some (.int .i64 a0_1) := bc BK221 1; have hcz18_2 : w17.cell? ⟨gb221, 2, none⟩ = some (.int .i64 a0_2) := bc BK221 2; have hcz18_3 : w17.cell? ⟨gb221, 3, none⟩ = some (.slice A0_3 l0_3.length c0_3) := bc BK221 3; have hfz18_0 := blk_frozen BK221.out 0; have hfz18_1 := blk_frozen BK221.out 1; have hfz18_2 := blk_frozen BK221.out 2; have hfz18_3 := blk_frozen BK221.out 3))
        go_meet
        case rel => exact ⟨_, ((a0_2 == 4611686018427387902)), (by first | rfl | (simp; done) | (simp [*]; done)), H', ⟨by first | omega | exact Nat.le_refl _⟩, ⟨by (with_reducible repeat (first | refine blk_drewN ?_ _ | refine blk_drew ?_ | refine blk_alloc ?_ _)); exact BK221.out⟩, ⟨by (with_reducible repeat (first | refine blk_drewN ?_ _ | refine blk_drew ?_ | refine blk_alloc ?_ _)); exact BK222.out⟩, ⟨by (with_reducible repeat (first | refine blk_drewN ?_ _ | refine blk_drew ?_ | refine blk_alloc ?_ _)); exact BK223.out⟩, ⟨by repeat (with_reducible first | exact hq HB.out | refine bs ?_ GE221.out | refine bs ?_ GE222.out | refine bs ?_ GE223.out | refine us ?_)⟩⟩
      · replace c10 := Bool.eq_false_iff.mpr c10
        subst c10
        have H1 : (impl_TableAdd.j0 k true a0_0 a0_1 a0_2 l0_3 a1_0 a1_1) = some (r1, r2, r3, r4, r5) := by rw [if_neg (show ¬ (false = true) by decide)] at H; exact H
        clear H
        have H := H1
        clear H1
        have H' := Aside0.mk H
        clear H
        have hnb19 := NB221_222.out
        have hnc19 := NB222_221.out
        have hnb20 := NB221_223.out
        have hnc20 := NB223_221.out
        have hcz21_0 : w6.cell? ⟨gb221, 0, none⟩ = some (.int .i64 a0_0) := bc BK221 0
        have hcz21_1 : w6.cell? ⟨gb221, 1, none⟩ = some (.int .i64 a0_1) := bc BK221 1
        have hcz21_2 : w6.cell? ⟨gb221, 2, none⟩ = some (.int .i64 a0_2) := bc BK221 2
        have hcz21_3 : w6.cell? ⟨gb221, 3, none⟩ = some (.slice A0_3 l0_3.length c0_3) := bc BK221 3
        have hfz21_0 := blk_frozen BK221.out 0
        have hfz21_1 := blk_frozen BK221.out 1
        have hfz21_2 := blk_frozen BK221.out 2
        have hfz21_3 := blk_frozen BK221.out 3
        go_wp2_with (first | ((with_reducible refine gate_callee (f := 41) rfl ?_); refine goesL_ (some 7) rfl rfl Try.func41 (by kernel_rfl) rfl #[.agg #[.int .i64 a0_0, .int .i64 a0_1, .int .i64 a0_2, .slice A0_3 l0_3.length c0_3]] rfl (by (try simp only [List.map_toArray, List.map_cons, List.map_nil]); first | done | rfl | (simp only [List.length_drop, List.length_take]; rfl)) ?_; (with_reducible refine (impl_TableOK.calls k a0_0 a0_1 a0_2 _ _ l0_3 true _ ?side1 ?side2 A7.out).mono ?_); (case side1 => repeat (first | exact (Kd.C_below HR0_3.out HB.out) | (with_reducible refine Kd.C_alloc ?_ _) | (with_reducible refine Kd.C_drewN ?_ _) | (with_reducible refine Kd.C_drew ?_))); (case side2 => exact HC0_3.out); rintro e w22 ⟨rfl, hb⟩; refine ⟨_, rfl, ?_⟩; replace BK221 := am (blk_below (bq BK221.out) hb); replace BK222 := am (blk_below (bq BK222.out) hb); replace BK223 := am (blk_below (bq BK223.out) hb); replace HB := am (below_step (by repeat (with_reducible first | exact hq HB.out | refine bs ?_ GE221.out | refine bs ?_ GE222.out | refine bs ?_ GE223.out | refine us ?_)) hb); (try clear hb); (try clear hb2); (try clear hk); (try clear hi); have hnb23 := NB222_223.out; have hnc23 := NB223_222.out; have hcz24_0 : w22.cell? ⟨gb222, 0, none⟩ = some (.string a1_0) := bc BK222 0; have hcz24_1 : w22.cell? ⟨gb222, 1, none⟩ = some (.string a1_1) := bc BK222 1; have hfz24_0 := blk_frozen BK222.out 0; have hfz24_1 := blk_frozen BK222.out 1) | (go_at_call 104; (with_reducible refine (impl_fieldOK.calls k a1_0 a1_1 false _ A9.out).mono ?_); rintro e w25 ⟨rfl, hb⟩; replace BK221 := am (blk_below (bq BK221.out) hb); replace BK222 := am (blk_below (bq BK222.out) hb); replace BK223 := am (blk_below (bq BK223.out) hb); replace HB := am (below_step (by repeat (with_reducible first | exact hq HB.out | refine bs ?_ GE221.out | refine bs ?_ GE222.out | refine bs ?_ GE223.out | refine us ?_)) hb); (try clear hb); (try clear hb2); (try clear hk); (try clear hi)))
        go_meet
        case rel => exact ⟨_, (true), (by first | rfl | (simp; done) | (simp [*]; done)), H', ⟨by first | omega | exact Nat.le_refl _⟩, ⟨by (with_reducible repeat (first | refine blk_drewN ?_ _ | refine blk_drew ?_ | refine blk_alloc ?_ _)); exact BK221.out⟩, ⟨by (with_reducible repeat (first | refine blk_drewN ?_ _ | refine blk_drew ?_ | refine blk_alloc ?_ _)); exact BK222.out⟩, ⟨by (with_reducible repeat (first | refine blk_drewN ?_ _ | refine blk_drew ?_ | refine blk_alloc ?_ _)); exact BK223.out⟩, ⟨by repeat (with_reducible first | exact hq HB.out | refine bs ?_ GE221.out | refine bs ?_ GE222.out | refine bs ?_ GE223.out | refine us ?_)⟩⟩
    · replace c8 := Bool.eq_false_iff.mpr c8
      subst c8
      have H1 : (impl_TableAdd.j0 k true a0_0 a0_1 a0_2 l0_3 a1_0 a1_1) = some (r1, r2, r3, r4, r5) := by rw [if_neg (show ¬ (false = true) by decide)] at H; exact H
      clear H
      have H := H1
      clear H1
      have H' := Aside0.mk H
      clear H
      have hnb26 := NB221_222.out
      have hnc26 := NB222_221.out
      have hnb27 := NB221_223.out
      have hnc27 := NB223_221.out
      have hcz28_0 : w6.cell? ⟨gb221, 0, none⟩ = some (.int .i64 a0_0) := bc BK221 0
      have hcz28_1 : w6.cell? ⟨gb221, 1, none⟩ = some (.int .i64 a0_1) := bc BK221 1
      have hcz28_2 : w6.cell? ⟨gb221, 2, none⟩ = some (.int .i64 a0_2) := bc BK221 2
      have hcz28_3 : w6.cell? ⟨gb221, 3, none⟩ = some (.slice A0_3 l0_3.length c0_3) := bc BK221 3
      have hfz28_0 := blk_frozen BK221.out 0
      have hfz28_1 := blk_frozen BK221.out 1
      have hfz28_2 := blk_frozen BK221.out 2
      have hfz28_3 := blk_frozen BK221.out 3
      go_wp2_with (first | ((with_reducible refine gate_callee (f := 41) rfl ?_); refine goesL_ (some 7) rfl rfl Try.func41 (by kernel_rfl) rfl #[.agg #[.int .i64 a0_0, .int .i64 a0_1, .int .i64 a0_2, .slice A0_3 l0_3.length c0_3]] rfl (by (try simp only [List.map_toArray, List.map_cons, List.map_nil]); first | done | rfl | (simp only [List.length_drop, List.length_take]; rfl)) ?_; (with_reducible refine (impl_TableOK.calls k a0_0 a0_1 a0_2 _ _ l0_3 false _ ?side1 ?side2 A7.out).mono ?_); (case side1 => repeat (first | exact (Kd.C_below HR0_3.out HB.out) | (with_reducible refine Kd.C_alloc ?_ _) | (with_reducible refine Kd.C_drewN ?_ _) | (with_reducible refine Kd.C_drew ?_))); (case side2 => exact HC0_3.out); rintro e w29 ⟨rfl, hb⟩; refine ⟨_, rfl, ?_⟩; replace BK221 := am (blk_below (bq BK221.out) hb); replace BK222 := am (blk_below (bq BK222.out) hb); replace BK223 := am (blk_below (bq BK223.out) hb); replace HB := am (below_step (by repeat (with_reducible first | exact hq HB.out | refine bs ?_ GE221.out | refine bs ?_ GE222.out | refine bs ?_ GE223.out | refine us ?_)) hb); (try clear hb); (try clear hb2); (try clear hk); (try clear hi)))
      go_meet
      case rel => exact ⟨_, (true), (by first | rfl | (simp; done) | (simp [*]; done)), H', ⟨by first | omega | exact Nat.le_refl _⟩, ⟨by (with_reducible repeat (first | refine blk_drewN ?_ _ | refine blk_drew ?_ | refine blk_alloc ?_ _)); exact BK221.out⟩, ⟨by (with_reducible repeat (first | refine blk_drewN ?_ _ | refine blk_drew ?_ | refine blk_alloc ?_ _)); exact BK222.out⟩, ⟨by (with_reducible repeat (first | refine blk_drewN ?_ _ | refine blk_drew ?_ | refine blk_alloc ?_ _)); exact BK223.out⟩, ⟨by repeat (with_reducible first | exact hq HB.out | refine bs ?_ GE221.out | refine bs ?_ GE222.out | refine bs ?_ GE223.out | refine us ?_)⟩⟩
  case rest =>
    clear HC3
    try clear c1
    try clear c2
    try clear p2
    try clear c4
    try clear c5
    try clear c8
    try clear c10
    try clear c11
    try clear c12
    try clear c15
    try clear c19
    try clear c20
    try clear c23
    try clear c26
    try clear c27
    try clear hcz13_0
    try clear hcz13_1
    try clear hcz13_2
    try clear hcz13_3
    try clear hcz16_0
    try clear hcz16_1
    try clear hcz18_0
    try clear hcz18_1
    try clear hcz18_2
    try clear hcz18_3
    try clear hcz21_0
    try clear hcz21_1
    try clear hcz21_2
    try clear hcz21_3
    try clear hcz24_0
    try clear hcz24_1
    try clear hcz28_0
    try clear hcz28_1
    try clear hcz28_2
    try clear hcz28_3
    try clear hfz13_0
    try clear hfz13_1
    try clear hfz13_2
    try clear hfz13_3
    try clear hfz16_0
    try clear hfz16_1
    try clear hfz18_0
    try clear hfz18_1
    try clear hfz18_2
    try clear hfz18_3
    try clear hfz21_0
    try clear hfz21_1
    try clear hfz21_2
    try clear hfz21_3
    try clear hfz24_0
    try clear hfz24_1
    try clear hfz28_0
    try clear hfz28_1
    try clear hfz28_2
    try clear hfz28_3
    obtain ⟨kq, x18_2, rfl, HA, HJ2, BK221, BK222, BK223, HB⟩ := hcut
    cases kq with
    | zero => exact absurd HA.out (by simp [impl_TableAdd.j0])
    | succ kj2 =>
      have H := HA.out
      clear HA
      simp only [impl_TableAdd.j0] at H
      by_cases c30 : x18_2 = true
      · subst c30
        have H1 : (some (0, 0, 0, ([] : List (S23)), 1)) = some (r1, r2, r3, r4, r5) := by rw [if_pos rfl] at H; exact H
        clear H
        have H := H1
        clear H1
        simp only [Option.some.injEq, Prod.mk.injEq] at H
        obtain ⟨rfl, rfl, rfl, rfl, rfl⟩ := H
        have hnb31 := NB223_221.out
        have hnc31 := NB221_223.out
        have hnb32 := NB223_222.out
        have hnc32 := NB222_223.out
        have hcz33_0 : wc.cell? ⟨gb223, 0, none⟩ = some (.int .i64 0) := bc BK223 0
        have hcz33_1 : wc.cell? ⟨gb223, 1, none⟩ = some (.int .i64 0) := bc BK223 1
        have hcz33_2 : wc.cell? ⟨gb223, 2, none⟩ = some (.int .i64 0) := bc BK223 2
        have hcz33_3 : wc.cell? ⟨gb223, 3, none⟩ = some (.slice none 0 0) := bc BK223 3
        have hfz33_0 := blk_frozen BK223.out 0
        have hfz33_1 := blk_frozen BK223.out 1
        have hfz33_2 := blk_frozen BK223.out 2
        have hfz33_3 := blk_frozen BK223.out 3
        go_wp2
        refine bodyPost_ret (results_ct rfl _ _ gb223 69 #[.int .i64 0, .int .i64 0, .int .i64 0, .slice none 0 0] (0, 0) _ rfl (bu (blk_put (cs := #[.int .i64 0, .int .i64 0, .int .i64 0, .slice none 0 0]) (bu (blk_put (cs := #[.int .i64 0, .int .i64 0, .int .i64 0, .slice none 0 0]) (bu (blk_put (cs := #[.int .i64 0, .int .i64 0, .int .i64 0, .slice none 0 0]) (bu (blk_put (cs := #[.int .i64 0, .int .i64 0, .int .i64 0, .slice none 0 0]) (bq BK223.out) 0 _ rfl)) 1 _ rfl)) 2 _ rfl)) 3 _ rfl)) Try.underlying69 rfl (by kernel_rfl)) rfl ?_
        exact ⟨_, by first | rfl | (simp [errW_none, errW_some] <;> rfl) | (simp [*, errW_none, errW_some] <;> rfl), by first | exact Kd.R_nil _ _ _ _ _ | exact Kd.N_nil _ _ _ _ _ | exact Kd.V_nil _ _ _ _ _ | exact Kd.Q_nil _ _ _ _ _ | exact Kd.S_nil _ _ _ _ _, by repeat (with_reducible first | exact hq HB.out | refine bs ?_ GE221.out | refine bs ?_ GE222.out | refine bs ?_ GE223.out | refine us ?_)⟩
      · replace c30 := Bool.eq_false_iff.mpr c30
        subst c30
        have H1 : ((impl_costOf.f a1_0 a1_1).bind fun t226 => (if t226 > a0_1 then (some (0, 0, 0, ([] : List (S23)), 16)) else ((impl_costOf.f a1_0 a1_1).bind fun t227 => ((impl_Table_fitted.f kj2 a0_0 a0_1 a0_2 l0_3 t227).bind fun bt228 => (if bt228.2.2.2.length < 4398046511104 then (some (bt228.1, bt228.2.1, wrap64 (bt228.2.2.1 + 1), (bt228.2.2.2 ++ [(⟨a1_0, a1_1⟩ : S23)]), 0)) else (none)))))) = some (r1, r2, r3, r4, r5) := by rw [if_neg (show ¬ (false = true) by decide)] at H; exact H
        clear H
        have H := H1
        clear H1
        replace H := Option.bind_eq_some_iff.mp H
        obtain ⟨t226, A340, H⟩ := H
        replace H : (if t226 > a0_1 then (some (0, 0, 0, ([] : List (S23)), 16)) else ((impl_costOf.f a1_0 a1_1).bind fun t227 => ((impl_Table_fitted.f kj2 a0_0 a0_1 a0_2 l0_3 t227).bind fun bt228 => (if bt228.2.2.2.length < 4398046511104 then (some (bt228.1, bt228.2.1, wrap64 (bt228.2.2.1 + 1), (bt228.2.2.2 ++ [(⟨a1_0, a1_1⟩ : S23)]), 0)) else (none))))) = some (r1, r2, r3, r4, r5) := H
        have A34 := Aside0.mk A340
        clear A340
        by_cases c35 : t226 > a0_1
        · rw [if_pos c35] at H
          have c35b0 : decide (a0_1 < t226) = true := decide_eq_true c35
          clear c35
          simp only [Option.some.injEq, Prod.mk.injEq] at H
          obtain ⟨rfl, rfl, rfl, rfl, rfl⟩ := H
          try go_wp2
          have n0_ := am (blk_drew BK221.out)
          have n1_ := am (blk_drew BK222.out)
          have n2_ := am (blk_drew BK223.out)
          have n3_ := am (below_drew1 HB.out)
          clear BK221
          clear BK222
          clear BK223
          clear HB
          have BK221 := n0_
          have BK222 := n1_
          have BK223 := n2_
          have HB := n3_
          clear n0_ n1_ n2_ n3_
          refine start_ (n := 5) (S := fun w' => w'.cell? ⟨gb222, 0, none⟩ = some (.string a1_0) ∧ w'.cell? ⟨gb222, 1, none⟩ = some (.string a1_1) ∧ w'.cell? ⟨gb221, 0, none⟩ = some (.int .i64 a0_0) ∧ w'.cell? ⟨gb221, 1, none⟩ = some (.int .i64 a0_1) ∧ w'.cell? ⟨gb221, 2, none⟩ = some (.int .i64 a0_2) ∧ w'.cell? ⟨gb221, 3, none⟩ = some (.slice A0_3 l0_3.length c0_3)) (ds := []) #[false, false, false, false, false] (by kernel_rfl) rfl rfl ⟨bc BK222 0, bc BK222 1, bc BK221 0, bc BK221 1, bc BK221 2, bc BK221 3⟩ (fun hHeld => ?_)
          generalize wc.drew = w36 at BK221 BK222 BK223 HB hHeld ⊢
          refine pure_ (i := 2) (N := some 22) (v := ?_) (a' := ?_) #[false, false, true, false, false] rfl rfl (by kernel_rfl) (fun _ _ _ h => h) (Or.inl ⟨by rfl, ?_⟩) ?_ ?_
          rotate_left
          · intro w'
            go_simp
            with_reducible rfl
          rotate_left
          · simp only [Act.put, sA, sB, sC, i64_w, i32_w]
            rfl
          refine take_ (i := 0) (N := some 20) (v := ?_) (a' := ?_) #[true, false, true, false, false] rfl rfl (by kernel_rfl) (fun _ _ _ h => h) (Or.inl ⟨by rfl, ?_⟩) hHeld ?_ ?_
          rotate_left
          · rintro w' ⟨s0, s1, s2, s3, s4, s5⟩
            go_simp
            with_reducible rfl
          rotate_left
          · simp only [Act.put, sA, sB, sC, i64_w, i32_w]
            rfl
          refine take_ (i := 3) (N := some 23) (v := ?_) (a' := ?_) #[true, false, true, true, false] rfl rfl (by kernel_rfl) (fun _ _ _ h => h) (Or.inl ⟨by rfl, ?_⟩) hHeld ?_ ?_
          rotate_left
          · rintro w' ⟨s0, s1, s2, s3, s4, s5⟩
            go_simp
            with_reducible rfl
          rotate_left
          · simp only [Act.put, sA, sB, sC, i64_w, i32_w]
            rfl
          refine one_ (i := 1) (N := some 21) #[true, true, true, true, false] rfl rfl (by kernel_rfl) (by decide) (fun K hK => ?_)
          refine goes_ Try.func103 (by kernel_rfl) rfl #[.agg #[.string a1_0, .string a1_1]] (by rfl) rfl rfl (by (try simp only [List.map_toArray, List.map_cons, List.map_nil]); first | done | rfl | (simp only [List.length_drop, List.length_take]; rfl)) ?_
          with_reducible refine (impl_costOf.calls a1_0 a1_1 t226 _ A34.out).mono ?_
          rintro e w37 ⟨rfl, hb⟩
          refine ⟨_, rfl, ?_⟩
          have n0_ := am (blk_below (bq BK221.out) hb)
          have n1_ := am (blk_below (bq BK222.out) hb)
          have n2_ := am (blk_below (bq BK223.out) hb)
          have n3_ := am (below_step (by repeat (with_reducible first | exact hq HB.out | refine bs ?_ GE221.out | refine bs ?_ GE222.out | refine bs ?_ GE223.out | refine us ?_)) hb)
          clear BK221
          clear BK222
          clear BK223
          clear HB
          have BK221 := n0_
          have BK222 := n1_
          have BK223 := n2_
          have HB := n3_
          clear n0_ n1_ n2_ n3_
          (try clear hb)
          (try clear hb2)
          (try clear hk)
          (try clear hi)
          refine hK.out _ _ ⟨bc BK222 0, bc BK222 1, bc BK221 0, bc BK221 1, bc BK221 2, bc BK221 3⟩ (fun hHeld => ?_)
          clear hK K
          refine norm_ (a' := ?_) ?_ ?_
          rotate_left
          · show Act.put _ (some 21) _ = _
            simp only [Act.put, sA, sB, sC, i64_w, i32_w]
            rfl
          refine pure_ (i := 4) (N := some 24) (v := ?_) (a' := ?_) #[true, true, true, true, true] rfl rfl (by kernel_rfl) (fun _ _ _ h => h) (Or.inl ⟨by rfl, ?_⟩) ?_ ?_
          rotate_left
          · intro w'
            go_simp
            with_reducible rfl
          rotate_left
          · simp only [Act.put, sA, sB, sC, i64_w, i32_w]
            rfl
          refine done_ (by kernel_rfl) ?_
          have hnb38 := NB223_221.out
          have hnc38 := NB221_223.out
          have hnb39 := NB223_222.out
          have hnc39 := NB222_223.out
          have hcz40_0 : w37.cell? ⟨gb223, 0, none⟩ = some (.int .i64 0) := bc BK223 0
          have hcz40_1 : w37.cell? ⟨gb223, 1, none⟩ = some (.int .i64 0) := bc BK223 1
          have hcz40_2 : w37.cell? ⟨gb223, 2, none⟩ = some (.int .i64 0) := bc BK223 2
          have hcz40_3 : w37.cell? ⟨gb223, 3, none⟩ = some (.slice none 0 0) := bc BK223 3
          have hfz40_0 := blk_frozen BK223.out 0
          have hfz40_1 := blk_frozen BK223.out 1
          have hfz40_2 := blk_frozen BK223.out 2
          have hfz40_3 := blk_frozen BK223.out 3
          try go_wp2
          refine bodyPost_ret (results_ct rfl _ _ gb223 69 #[.int .i64 0, .int .i64 0, .int .i64 0, .slice none 0 0] (0, 0) _ rfl (bu (blk_put (cs := #[.int .i64 0, .int .i64 0, .int .i64 0, .slice none 0 0]) (bu (blk_put (cs := #[.int .i64 0, .int .i64 0, .int .i64 0, .slice none 0 0]) (bu (blk_put (cs := #[.int .i64 0, .int .i64 0, .int .i64 0, .slice none 0 0]) (bu (blk_put (cs := #[.int .i64 0, .int .i64 0, .int .i64 0, .slice none 0 0]) (bq BK223.out) 0 _ rfl)) 1 _ rfl)) 2 _ rfl)) 3 _ rfl)) Try.underlying69 rfl (by kernel_rfl)) rfl ?_
          exact ⟨_, by first | rfl | (simp [errW_none, errW_some] <;> rfl) | (simp [*, errW_none, errW_some] <;> rfl), by first | exact Kd.R_nil _ _ _ _ _ | exact Kd.N_nil _ _ _ _ _ | exact Kd.V_nil _ _ _ _ _ | exact Kd.Q_nil _ _ _ _ _ | exact Kd.S_nil _ _ _ _ _, by repeat (with_reducible first | exact hq HB.out | refine bs ?_ GE221.out | refine bs ?_ GE222.out | refine bs ?_ GE223.out | refine us ?_)⟩
        · rw [if_neg c35] at H
          have c35b0 : decide (a0_1 < t226) = false := decide_eq_false c35
          clear c35
          replace H := Option.bind_eq_some_iff.mp H
          obtain ⟨t227, A410, H⟩ := H
          replace H : ((impl_Table_fitted.f kj2 a0_0 a0_1 a0_2 l0_3 t227).bind fun bt228 => (if bt228.2.2.2.length < 4398046511104 then (some (bt228.1, bt228.2.1, wrap64 (bt228.2.2.1 + 1), (bt228.2.2.2 ++ [(⟨a1_0, a1_1⟩ : S23)]), 0)) else (none))) = some (r1, r2, r3, r4, r5) := H
          have A41 := Aside0.mk A410
          clear A410
          replace H := Option.bind_eq_some_iff.mp H
          obtain ⟨⟨t228, t229, t230, t231⟩, A420, H⟩ := H
          replace H : (if t231.length < 4398046511104 then (some (t228, t229, wrap64 (t230 + 1), (t231 ++ [(⟨a1_0, a1_1⟩ : S23)]), 0)) else (none)) = some (r1, r2, r3, r4, r5) := H
          have A42 := Aside0.mk A420
          clear A420
          by_cases c43 : t231.length < 4398046511104
          · rw [if_pos c43] at H
            have LMc43 := Aside0.mk c43
            clear c43
            obtain ⟨y234, hy234⟩ : ∃ y_ : List (S23), y_ = (t231 ++ [(⟨a1_0, a1_1⟩ : S23)]) := ⟨_, rfl⟩
            replace H : (some (t228, t229, wrap64 (t230 + 1), y234, 0)) = some (r1, r2, r3, r4, r5) := by first | (rw [hy234]; with_reducible exact H) | (have H2_ := (Option.bind_some _ _).symm.trans H; rw [hy234]; with_reducible exact H2_) | (have H2_ := (Option.bind_some _ _).symm.trans H; with_reducible exact H2_) | with_reducible exact H | (rw [hy234]; exact H) | exact H
            have Ny234 := Aside0.mk hy234
            clear hy234
            simp only [Option.some.injEq, Prod.mk.injEq] at H
            obtain ⟨rfl, rfl, rfl, rfl, rfl⟩ := H
            try go_wp2
            have n0_ := am (blk_drew BK221.out)
            have n1_ := am (blk_drew BK222.out)
            have n2_ := am (blk_drew BK223.out)
            have n3_ := am (below_drew1 HB.out)
            clear BK221
            clear BK222
            clear BK223
            clear HB
            have BK221 := n0_
            have BK222 := n1_
            have BK223 := n2_
            have HB := n3_
            clear n0_ n1_ n2_ n3_
            refine start_ (n := 5) (S := fun w' => w'.cell? ⟨gb222, 0, none⟩ = some (.string a1_0) ∧ w'.cell? ⟨gb222, 1, none⟩ = some (.string a1_1) ∧ w'.cell? ⟨gb221, 0, none⟩ = some (.int .i64 a0_0) ∧ w'.cell? ⟨gb221, 1, none⟩ = some (.int .i64 a0_1) ∧ w'.cell? ⟨gb221, 2, none⟩ = some (.int .i64 a0_2) ∧ w'.cell? ⟨gb221, 3, none⟩ = some (.slice A0_3 l0_3.length c0_3)) (ds := []) #[false, false, false, false, false] (by kernel_rfl) rfl rfl ⟨bc BK222 0, bc BK222 1, bc BK221 0, bc BK221 1, bc BK221 2, bc BK221 3⟩ (fun hHeld => ?_)
            generalize wc.drew = w44 at BK221 BK222 BK223 HB hHeld ⊢
            refine pure_ (i := 2) (N := some 22) (v := ?_) (a' := ?_) #[false, false, true, false, false] rfl rfl (by kernel_rfl) (fun _ _ _ h => h) (Or.inl ⟨by rfl, ?_⟩) ?_ ?_
            rotate_left
            · intro w'
              go_simp
              with_reducible rfl
            rotate_left
            · simp only [Act.put, sA, sB, sC, i64_w, i32_w]
              rfl
            refine take_ (i := 0) (N := some 20) (v := ?_) (a' := ?_) #[true, false, true, false, false] rfl rfl (by kernel_rfl) (fun _ _ _ h => h) (Or.inl ⟨by rfl, ?_⟩) hHeld ?_ ?_
            rotate_left
            · rintro w' ⟨s0, s1, s2, s3, s4, s5⟩
              go_simp
              with_reducible rfl
            rotate_left
            · simp only [Act.put, sA, sB, sC, i64_w, i32_w]
              rfl
            refine take_ (i := 3) (N := some 23) (v := ?_) (a' := ?_) #[true, false, true, true, false] rfl rfl (by kernel_rfl) (fun _ _ _ h => h) (Or.inl ⟨by rfl, ?_⟩) hHeld ?_ ?_
            rotate_left
            · rintro w' ⟨s0, s1, s2, s3, s4, s5⟩
              go_simp
              with_reducible rfl
            rotate_left
            · simp only [Act.put, sA, sB, sC, i64_w, i32_w]
              rfl
            refine one_ (i := 1) (N := some 21) #[true, true, true, true, false] rfl rfl (by kernel_rfl) (by decide) (fun K hK => ?_)
            refine goes_ Try.func103 (by kernel_rfl) rfl #[.agg #[.string a1_0, .string a1_1]] (by rfl) rfl rfl (by (try simp only [List.map_toArray, List.map_cons, List.map_nil]); first | done | rfl | (simp only [List.length_drop, List.length_take]; rfl)) ?_
            with_reducible refine (impl_costOf.calls a1_0 a1_1 t226 _ A34.out).mono ?_
            rintro e w45 ⟨rfl, hb⟩
            refine ⟨_, rfl, ?_⟩
            have n0_ := am (blk_below (bq BK221.out) hb)
            have n1_ := am (blk_below (bq BK222.out) hb)
            have n2_ := am (blk_below (bq BK223.out) hb)
            have n3_ := am (below_step (by repeat (with_reducible first | exact hq HB.out | refine bs ?_ GE221.out | refine bs ?_ GE222.out | refine bs ?_ GE223.out | refine us ?_)) hb)
            clear BK221
            clear BK222
            clear BK223
            clear HB
            have BK221 := n0_
            have BK222 := n1_
            have BK223 := n2_
            have HB := n3_
            clear n0_ n1_ n2_ n3_
            (try clear hb)
            (try clear hb2)
            (try clear hk)
            (try clear hi)
            refine hK.out _ _ ⟨bc BK222 0, bc BK222 1, bc BK221 0, bc BK221 1, bc BK221 2, bc BK221 3⟩ (fun hHeld => ?_)
            clear hK K
            refine norm_ (a' := ?_) ?_ ?_
            rotate_left
            · show Act.put _ (some 21) _ = _
              simp only [Act.put, sA, sB, sC, i64_w, i32_w]
              rfl
            refine pure_ (i := 4) (N := some 24) (v := ?_) (a' := ?_) #[true, true, true, true, true] rfl rfl (by kernel_rfl) (fun _ _ _ h => h) (Or.inl ⟨by rfl, ?_⟩) ?_ ?_
            rotate_left
            · intro w'
              go_simp
              with_reducible rfl
            rotate_left
            · simp only [Act.put, sA, sB, sC, i64_w, i32_w]
              rfl
            refine done_ (by kernel_rfl) ?_
            try go_wp2
            have n0_ := am (blk_drew BK221.out)
            have n1_ := am (blk_drew BK222.out)
            have n2_ := am (blk_drew BK223.out)
            have n3_ := am (below_drew1 HB.out)
            clear BK221
            clear BK222
            clear BK223
            clear HB
            have BK221 := n0_
            have BK222 := n1_
            have BK223 := n2_
            have HB := n3_
            clear n0_ n1_ n2_ n3_
            refine start_ (n := 5) (S := fun w' => w'.cell? ⟨gb221, 0, none⟩ = some (.int .i64 a0_0) ∧ w'.cell? ⟨gb221, 1, none⟩ = some (.int .i64 a0_1) ∧ w'.cell? ⟨gb221, 2, none⟩ = some (.int .i64 a0_2) ∧ w'.cell? ⟨gb221, 3, none⟩ = some (.slice A0_3 l0_3.length c0_3) ∧ w'.cell? ⟨gb222, 0, none⟩ = some (.string a1_0) ∧ w'.cell? ⟨gb222, 1, none⟩ = some (.string a1_1)) (ds := [4]) #[false, false, false, false, false] (by kernel_rfl) rfl rfl ⟨bc BK221 0, bc BK221 1, bc BK221 2, bc BK221 3, bc BK222 0, bc BK222 1⟩ (fun hHeld => ?_)
            generalize w45.drew = w46 at BK221 BK222 BK223 HB hHeld ⊢
            refine take_ (i := 0) (N := some 26) (v := ?_) (a' := ?_) #[true, false, false, false, false] rfl rfl (by kernel_rfl) (fun _ _ _ h => h) (Or.inl ⟨by rfl, ?_⟩) hHeld ?_ ?_
            rotate_left
            · rintro w' ⟨s0, s1, s2, s3, s4, s5⟩
              go_simp
              with_reducible rfl
            rotate_left
            · simp only [Act.put, sA, sB, sC, i64_w, i32_w]
              rfl
            refine take_ (i := 1) (N := some 27) (v := ?_) (a' := ?_) #[true, true, false, false, false] rfl rfl (by kernel_rfl) (fun _ _ _ h => h) (Or.inl ⟨by rfl, ?_⟩) hHeld ?_ ?_
            rotate_left
            · rintro w' ⟨s0, s1, s2, s3, s4, s5⟩
              go_simp
              with_reducible rfl
            rotate_left
            · simp only [Act.put, sA, sB, sC, i64_w, i32_w]
              rfl
            refine one_ (i := 2) (N := some 28) #[true, true, true, false, false] rfl rfl (by kernel_rfl) (by decide) (fun K hK => ?_)
            refine goes_ Try.func103 (by kernel_rfl) rfl #[.agg #[.string a1_0, .string a1_1]] (by rfl) rfl rfl (by (try simp only [List.map_toArray, List.map_cons, List.map_nil]); first | done | rfl | (simp only [List.length_drop, List.length_take]; rfl)) ?_
            with_reducible refine (impl_costOf.calls a1_0 a1_1 t227 _ A41.out).mono ?_
            rintro e w47 ⟨rfl, hb⟩
            refine ⟨_, rfl, ?_⟩
            have n0_ := am (blk_below (bq BK221.out) hb)
            have n1_ := am (blk_below (bq BK222.out) hb)
            have n2_ := am (blk_below (bq BK223.out) hb)
            have n3_ := am (below_step (by repeat (with_reducible first | exact hq HB.out | refine bs ?_ GE221.out | refine bs ?_ GE222.out | refine bs ?_ GE223.out | refine us ?_)) hb)
            clear BK221
            clear BK222
            clear BK223
            clear HB
            have BK221 := n0_
            have BK222 := n1_
            have BK223 := n2_
            have HB := n3_
            clear n0_ n1_ n2_ n3_
            (try clear hb)
            (try clear hb2)
            (try clear hk)
            (try clear hi)
            refine hK.out _ _ ⟨bc BK221 0, bc BK221 1, bc BK221 2, bc BK221 3, bc BK222 0, bc BK222 1⟩ (fun hHeld => ?_)
            clear hK K
            refine norm_ (a' := ?_) ?_ ?_
            rotate_left
            · show Act.put _ (some 28) _ = _
              simp only [Act.put, sA, sB, sC, i64_w, i32_w]
              rfl
            refine one_ (i := 3) (N := some 29) #[true, true, true, true, false] rfl rfl (by kernel_rfl) (by decide) (fun K hK => ?_)
            refine goes_ Try.func109 (by kernel_rfl) rfl #[.agg #[.int .i64 a0_0, .int .i64 a0_1, .int .i64 a0_2, .slice A0_3 l0_3.length c0_3], .int .i64 t227] (by rfl) rfl rfl (by (try simp only [List.map_toArray, List.map_cons, List.map_nil]); first | done | rfl | (simp only [List.length_drop, List.length_take]; rfl)) ?_
            with_reducible refine (impl_Table_fitted.calls kj2 a0_0 a0_1 a0_2 (fun k_ => k_ < w.heap.size) _ _ l0_3 t227 t228 t229 t230 t231 _ ?side1 A42.out).mono ?_
            (case side1 => exact Kd.V_mk HC0_3.out (Kd.F_below (Kd.C_F k23_heap HR0_3.out) (by repeat (with_reducible first | exact hq HB.out | refine bs ?_ GE221.out | refine bs ?_ GE222.out | refine bs ?_ GE223.out | refine us ?_))))
            rintro e w48 ⟨v232, rfl, ho0, hb⟩
            refine ⟨_, rfl, ?_⟩
            have n0_ := am (Kd.R_lower (Kd.R_newB (Kd.R_mono (ok' := fun k_ => True) ho0 (fun _ hk_ => trivial)) (g := gb222) (o := .cells #[.string a1_0, .string a1_1] 23 (0, 0)) (bq BK222.out)) (below_size (by repeat (with_reducible first | exact hq HB.out | refine bs ?_ GE221.out | refine bs ?_ GE222.out | refine bs ?_ GE223.out | refine us ?_))))
            have n1_ := am (blk_below (bq BK221.out) hb)
            have n2_ := am (blk_below (bq BK222.out) hb)
            have n3_ := am (blk_below (bq BK223.out) hb)
            have n4_ := am (below_step (by repeat (with_reducible first | exact hq HB.out | refine bs ?_ GE221.out | refine bs ?_ GE222.out | refine bs ?_ GE223.out | refine us ?_)) hb)
            clear BK221
            clear BK222
            clear BK223
            clear HB
            have HO233 := n0_
            have BK221 := n1_
            have BK222 := n2_
            have BK223 := n3_
            have HB := n4_
            clear n0_ n1_ n2_ n3_ n4_
            (try clear hb)
            (try clear hb2)
            (try clear hk)
            (try clear hi)
            (try clear ho0)
            obtain ⟨Ao52, co52, eo52⟩ := Kd.R_slice HO233.out
            (first | subst eo52 | (injection eo52 with f1_ f2_ f3_; have f4_ := f1_.symm; have f5_ := f3_.symm; clear f1_ f2_ f3_; subst f4_; subst f5_))
            refine hK.out _ _ ⟨bc BK221 0, bc BK221 1, bc BK221 2, bc BK221 3, bc BK222 0, bc BK222 1⟩ (fun hHeld => ?_)
            clear hK K
            refine norm_ (a' := ?_) ?_ ?_
            rotate_left
            · show Act.put _ (some 29) _ = _
              simp only [Act.put, sA, sB, sC, i64_w, i32_w]
              rfl
            refine last_ (i := 4) (N := none) #[true, true, true, true, true] rfl rfl (by kernel_rfl) (by decide) (fun K hK => ?_)
            have hs49 : w48.cell? ⟨gb221, 0, none⟩ = some (.int .i64 a0_0) := bc BK221 0
            have hfs49 := blk_frozen BK221.out 0
            have hns49_1 := NB222_221.out
            have hns49_2 := NB223_221.out
            have hms49_1 := NB221_222.out
            have hms49_2 := NB221_223.out
            have hs50 : w48.cell? ⟨gb221, 1, none⟩ = some (.int .i64 a0_1) := bc BK221 1
            have hfs50 := blk_frozen BK221.out 1
            have hns50_1 := NB222_221.out
            have hns50_2 := NB223_221.out
            have hms50_1 := NB221_222.out
            have hms50_2 := NB221_223.out
            have hs51 : w48.cell? ⟨gb221, 2, none⟩ = some (.int .i64 a0_2) := bc BK221 2
            have hfs51 := blk_frozen BK221.out 2
            have hns51_1 := NB222_221.out
            have hns51_2 := NB223_221.out
            have hms51_1 := NB221_222.out
            have hms51_2 := NB221_223.out
            have hs53 : w48.cell? ⟨gb221, 3, none⟩ = some (.slice A0_3 l0_3.length c0_3) := bc BK221 3
            have hfs53 := blk_frozen BK221.out 3
            have hns53_1 := NB222_221.out
            have hns53_2 := NB223_221.out
            have hms53_1 := NB221_222.out
            have hms53_2 := NB221_223.out
            refine skip_ (w1 := ?_) (by rfl) rfl ?_ ?_
            rotate_left
            · go_simp
              rfl
            refine hK.out _ _ ?_
            clear hK K
            refine done_ (by kernel_rfl) ?_
            have hnb54 := NB221_222.out
            have hnc54 := NB222_221.out
            have hnb55 := NB221_223.out
            have hnc55 := NB223_221.out
            have hcz56_0 : w48.cell? ⟨gb221, 0, none⟩ = some (.int .i64 a0_0) := bc BK221 0
            have hcz56_1 : w48.cell? ⟨gb221, 1, none⟩ = some (.int .i64 a0_1) := bc BK221 1
            have hcz56_2 : w48.cell? ⟨gb221, 2, none⟩ = some (.int .i64 a0_2) := bc BK221 2
            have hcz56_3 : w48.cell? ⟨gb221, 3, none⟩ = some (.slice A0_3 l0_3.length c0_3) := bc BK221 3
            have hfz56_0 := blk_frozen BK221.out 0
            have hfz56_1 := blk_frozen BK221.out 1
            have hfz56_2 := blk_frozen BK221.out 2
            have hfz56_3 := blk_frozen BK221.out 3
            have hnb57 := NB222_223.out
            have hnc57 := NB223_222.out
            have hcz58_0 : w48.cell? ⟨gb222, 0, none⟩ = some (.string a1_0) := bc BK222 0
            have hcz58_1 : w48.cell? ⟨gb222, 1, none⟩ = some (.string a1_1) := bc BK222 1
            have hfz58_0 := blk_frozen BK222.out 0
            have hfz58_1 := blk_frozen BK222.out 1
            try go_wp2_with (first | ((with_reducible refine gate_builtin (b := .append) (xs := #[.tmp 31, .tmp 33]) rfl ?_); at_builtin; refine Kd.R_append k23 (w0 := w) w.heap.size rfl (.tmp 31) (.tmp 33) 67 23 (.agg #[(.string ⟨#[]⟩), (.string ⟨#[]⟩)]) 32 rfl Try.underlying67 info23 rfl (by decide) (by omega) (.slice Ao52 t231.length co52) t231 (⟨a1_0, a1_1⟩ : S23) [.string a1_0, .string a1_1] (fun k_ => k_ ≠ gb222) (fun _ => False) rfl (by first | (go_simp; done) | (go_simp; rfl)) ?aP (fun _ hk => hk.elim) ?aF ?aO ?aB ?aS ?aL ?_; (case aP => exact k23_mkM _ _ _ (⟨a1_0, a1_1⟩ : S23)); (case aB => exact (by repeat (with_reducible first | exact hq HB.out | refine bs ?_ GE221.out | refine bs ?_ GE222.out | refine bs ?_ GE223.out | refine us ?_))); (case aF => exact (fun k_ hk => Kd.freshB (g := gb222) (o := .cells #[.string a1_0, .string a1_1] 23 (0, 0)) (bu (blk_far (bu (blk_far (bu (blk_far (bu (blk_far (bq BK222.out) NB222_221.out _)) NB222_221.out _)) NB222_221.out _)) NB222_221.out _)) k_ hk)); (case aO => exact (rq (Kd.R_mono (Kd.R_far (p := ⟨gb221, 3, none⟩) (Kd.R_far (p := ⟨gb221, 2, none⟩) (Kd.R_far (p := ⟨gb221, 1, none⟩) (Kd.R_far (p := ⟨gb221, 0, none⟩) (Kd.R_types HO233.out BK221.out (by decide)) (fun _ hk => hk.2) (.int .i64 t228)) (fun _ hk => hk.2) (.int .i64 t229)) (fun _ hk => hk.2) (.int .i64 t230)) (fun _ hk => hk.2) (.slice Ao52 t231.length co52)) (fun _ hk => hk.1.2)))); (case aS => exact (below_size (by repeat (with_reducible first | exact hq HB.out | refine bs ?_ GE221.out | refine bs ?_ GE222.out | refine bs ?_ GE223.out | refine us ?_)))); (case aL => have := LMc43.out; omega); intro v235 w59 ho hb hg hat; rw [← Ny234.out] at ho; have n0_ := am (blk_grown (g := gb221) (o := .cells #[.int .i64 t228, .int .i64 t229, .int .i64 t230, .slice Ao52 t231.length co52] 69 (0, 0)) (bu (blk_put (cs := #[.int .i64 t228, .int .i64 t229, .int .i64 t230, .slice A0_3 l0_3.length c0_3]) (bu (blk_put (cs := #[.int .i64 t228, .int .i64 t229, .int .i64 a0_2, .slice A0_3 l0_3.length c0_3]) (bu (blk_put (cs := #[.int .i64 t228, .int .i64 a0_1, .int .i64 a0_2, .slice A0_3 l0_3.length c0_3]) (bu (blk_put (cs := #[.int .i64 a0_0, .int .i64 a0_1, .int .i64 a0_2, .slice A0_3 l0_3.length c0_3]) (bq BK221.out) 0 _ rfl)) 1 _ rfl)) 2 _ rfl)) 3 _ rfl)) hg (Kd.R_ne HO233.out BK221.out (by decide))); have n1_ := am (blk_grown (g := gb222) (o := .cells #[.string a1_0, .string a1_1] 23 (0, 0)) (bu (blk_far (bu (blk_far (bu (blk_far (bu (blk_far (bq BK222.out) NB222_221.out _)) NB222_221.out _)) NB222_221.out _)) NB222_221.out _)) hg (Kd.R_away HO233.out (fun _ hk => hk.2))); have n2_ := am (blk_grown (g := gb223) (o := .cells #[.int .i64 0, .int .i64 0, .int .i64 0, .slice none 0 0] 69 (0, 0)) (bu (blk_far (bu (blk_far (bu (blk_far (bu (blk_far (bq BK223.out) NB223_221.out _)) NB223_221.out _)) NB223_221.out _)) NB223_221.out _)) hg (Kd.R_ne HO233.out BK223.out (by decide))); have n3_ := am (hb); have n4_ := am (ho); clear BK221; clear BK222; clear BK223; clear HB; clear HO233; have BK221 := n0_; have BK222 := n1_; have BK223 := n2_; have HB := n3_; have HO236 := n4_; clear n0_ n1_ n2_ n3_ n4_; clear ho hb hg hat; obtain ⟨Ao60, co60, eo60⟩ := Kd.R_slice HO236.out; subst eo60; have hcz61_0 : w59.cell? ⟨gb221, 0, none⟩ = some (.int .i64 t228) := bc BK221 0; have hcz61_1 : w59.cell? ⟨gb221, 1, none⟩ = some (.int .i64 t229) := bc BK221 1; have hcz61_2 : w59.cell? ⟨gb221, 2, none⟩ = some (.int .i64 t230) := bc BK221 2; have hcz61_3 : w59.cell? ⟨gb221, 3, none⟩ = some (.slice Ao52 t231.length co52) := bc BK221 3; have hfz61_0 := blk_frozen BK221.out 0; have hfz61_1 := blk_frozen BK221.out 1; have hfz61_2 := blk_frozen BK221.out 2; have hfz61_3 := blk_frozen BK221.out 3; have hcz62_0 : w59.cell? ⟨gb223, 0, none⟩ = some (.int .i64 0) := bc BK223 0; have hcz62_1 : w59.cell? ⟨gb223, 1, none⟩ = some (.int .i64 0) := bc BK223 1; have hcz62_2 : w59.cell? ⟨gb223, 2, none⟩ = some (.int .i64 0) := bc BK223 2; have hcz62_3 : w59.cell? ⟨gb223, 3, none⟩ = some (.slice none 0 0) := bc BK223 3; have hfz62_0 := blk_frozen BK223.out 0; have hfz62_1 := blk_frozen BK223.out 1; have hfz62_2 := blk_frozen BK223.out 2; have hfz62_3 := blk_frozen BK223.out 3))
            refine bodyPost_ret (results_ct rfl _ _ gb223 69 #[.int .i64 t228, .int .i64 t229, .int .i64 (wrap64 (t230 + 1)), .slice Ao60 y234.length co60] (0, 0) _ rfl (bu (blk_put (cs := #[.int .i64 t228, .int .i64 t229, .int .i64 (wrap64 (t230 + 1)), .slice none 0 0]) (bu (blk_put (cs := #[.int .i64 t228, .int .i64 t229, .int .i64 0, .slice none 0 0]) (bu (blk_put (cs := #[.int .i64 t228, .int .i64 0, .int .i64 0, .slice none 0 0]) (bu (blk_put (cs := #[.int .i64 0, .int .i64 0, .int .i64 0, .slice none 0 0]) (bu (blk_far (bu (blk_far (bq BK223.out) NB223_221.out _)) NB223_221.out _)) 0 _ rfl)) 1 _ rfl)) 2 _ rfl)) 3 _ rfl)) Try.underlying69 rfl (by kernel_rfl)) rfl ?_
            exact ⟨_, by first | rfl | (simp [errW_none, errW_some] <;> rfl) | (simp [*, errW_none, errW_some] <;> rfl), by (with_reducible repeat (first | apply Kd.R_alloc | apply Kd.R_drewN | apply Kd.R_drew)); exact Kd.R_mono (Kd.R_far (p := ⟨gb223, 3, none⟩) (Kd.R_far (p := ⟨gb223, 2, none⟩) (Kd.R_far (p := ⟨gb223, 1, none⟩) (Kd.R_far (p := ⟨gb223, 0, none⟩) (Kd.R_far (p := ⟨gb221, 2, none⟩) (Kd.R_far (p := ⟨gb221, 3, none⟩) (Kd.R_types (Kd.R_types HO236.out BK221.out (by decide)) BK223.out (by decide)) (fun _ hk => hk.1.2) (.slice Ao60 y234.length co60)) (fun _ hk => hk.1.2) (.int .i64 (wrap64 (t230 + 1)))) (fun _ hk => hk.2) (.int .i64 t228)) (fun _ hk => hk.2) (.int .i64 t229)) (fun _ hk => hk.2) (.int .i64 (wrap64 (t230 + 1)))) (fun _ hk => hk.2) (.slice Ao60 y234.length co60)) (fun _ hk => trivial), by repeat (with_reducible first | exact hq HB.out | refine bs ?_ GE221.out | refine bs ?_ GE222.out | refine bs ?_ GE223.out | refine us ?_)⟩
          · rw [if_neg c43] at H
            exact absurd H (by simp)

end Go.Proofs.Ytjhcphcjpndciaa.PFnExactTableAdd
