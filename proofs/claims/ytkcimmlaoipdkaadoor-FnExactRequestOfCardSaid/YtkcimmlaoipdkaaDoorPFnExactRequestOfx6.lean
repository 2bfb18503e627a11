-- Written by a program of this repo (xprint.py) out of the translation; Lean checks it.
import Derived.Test.YtkcimmlaoipdkaaDoorPFnExactRequestOfx0
import Derived.Test.YtkcimmlaoipdkaaDoorPFnExactRequestOfx4
import Derived.Test.YtkcimmlaoipdkaaDoorPFnExactRequestOfx5
namespace Go.Proofs.YtkcimmlaoipdkaaDoor.PFnExactRequestOf
open Go.RowKit Go.Proofs.YtkcimmlaoipdkaaDoorW.PrintWords Go.Proofs.YtkcimmlaoipdkaaDoorW.PrintLast Go.Proofs.YtkcimmlaoipdkaaDoorW.PrintMore
attribute [local go_sem] max2_int min2_int max_two min_two max_three min_three max_four min_four   -- for this text's walks alone
set_option linter.unusedVariables false
set_option linter.unusedSimpArgs false

/-! ### spec_RequestOf: function 29 -/
def spec_RequestOf.l0 : Nat → List (S78) → Int → Int → ByteArray → ByteArray → ByteArray → ByteArray → Option (ByteArray × ByteArray × ByteArray × ByteArray × (List (S78)) × Int)
  | 0, _, _, _, _, _, _, _ => none
  | k + 1, x0, x4, x6, x154000, x154001, x154002, x154003 => if x6 < x4 then (if 0 ≤ x6 then (if x6 < (x0.length : Int) then (if ((rd_T78 x0 x6).f0).toList = ([58, 109, 101, 116, 104, 111, 100] : List UInt8) then (if x154000.toList = ([] : List UInt8) then (if ((rd_T78 x0 x6).f1).toList = ([] : List UInt8) then (some ((⟨#[]⟩ : ByteArray), (⟨#[]⟩ : ByteArray), (⟨#[]⟩ : ByteArray), (⟨#[]⟩ : ByteArray), ([] : List (S78)), 17)) else (spec_RequestOf.l0 k x0 x4 (wrap64 (x6 + 1)) ((rd_T78 x0 x6).f1) x154001 x154002 x154003)) else (some ((⟨#[]⟩ : ByteArray), (⟨#[]⟩ : ByteArray), (⟨#[]⟩ : ByteArray), (⟨#[]⟩ : ByteArray), ([] : List (S78)), 17))) else (if ((rd_T78 x0 x6).f0).toList = ([58, 115, 99, 104, 101, 109, 101] : List UInt8) then (if x154001.toList = ([] : List UInt8) then (if ((rd_T78 x0 x6).f1).toList = ([] : List UInt8) then (some ((⟨#[]⟩ : ByteArray), (⟨#[]⟩ : ByteArray), (⟨#[]⟩ : ByteArray), (⟨#[]⟩ : ByteArray), ([] : List (S78)), 17)) else (spec_RequestOf.l0 k x0 x4 (wrap64 (x6 + 1)) x154000 ((rd_T78 x0 x6).f1) x154002 x154003)) else (some ((⟨#[]⟩ : ByteArray), (⟨#[]⟩ : ByteArray), (⟨#[]⟩ : ByteArray), (⟨#[]⟩ : ByteArray), ([] : List (S78)), 17))) else (if ((rd_T78 x0 x6).f0).toList = ([58, 112, 97, 116, 104] : List UInt8) then (if x154003.toList = ([] : List UInt8) then (if ((rd_T78 x0 x6).f1).toList = ([] : List UInt8) then (some ((⟨#[]⟩ : ByteArray), (⟨#[]⟩ : ByteArray), (⟨#[]⟩ : ByteArray), (⟨#[]⟩ : ByteArray), ([] : List (S78)), 17)) else (spec_RequestOf.l0 k x0 x4 (wrap64 (x6 + 1)) x154000 x154001 x154002 ((rd_T78 x0 x6).f1))) else (some ((⟨#[]⟩ : ByteArray), (⟨#[]⟩ : ByteArray), (⟨#[]⟩ : ByteArray), (⟨#[]⟩ : ByteArray), ([] : List (S78)), 17))) else (if ((rd_T78 x0 x6).f0).toList = ([58, 97, 117, 116, 104, 111, 114, 105, 116, 121] : List UInt8) then (if x154002.toList = ([] : List UInt8) then (if ((rd_T78 x0 x6).f1).toList = ([] : List UInt8) then (some ((⟨#[]⟩ : ByteArray), (⟨#[]⟩ : ByteArray), (⟨#[]⟩ : ByteArray), (⟨#[]⟩ : ByteArray), ([] : List (S78)), 17)) else (spec_RequestOf.l0 k x0 x4 (wrap64 (x6 + 1)) x154000 x154001 ((rd_T78 x0 x6).f1) x154003)) else (some ((⟨#[]⟩ : ByteArray), (⟨#[]⟩ : ByteArray), (⟨#[]⟩ : ByteArray), (⟨#[]⟩ : ByteArray), ([] : List (S78)), 17))) else (some ((⟨#[]⟩ : ByteArray), (⟨#[]⟩ : ByteArray), (⟨#[]⟩ : ByteArray), (⟨#[]⟩ : ByteArray), ([] : List (S78)), 17)))))) else (none)) else (none)) else ((some (([] : List (S78)) : List (S78))).bind fun y154 => (if 0 ≤ x4 then (if x4 ≤ (x0.length : Int) then ((some (x0.drop (x4 : Int).toNat : List (S78))).bind fun y157 => (if y154.length + y157.length < 4398046511104 then ((some (y154 ++ y157 : List (S78))).bind fun y161 => ((spec_l15RequestOK.f k x154000 x154001 x154002 x154003 y161).bind fun t164 => (if t164 = true then (some (x154000, x154001, x154002, x154003, y161, 0)) else (some ((⟨#[]⟩ : ByteArray), (⟨#[]⟩ : ByteArray), (⟨#[]⟩ : ByteArray), (⟨#[]⟩ : ByteArray), ([] : List (S78)), 17))))) else (none))) else (none)) else (none)))
def spec_RequestOf.f (k : Nat) (l0 : List (S78)) : Option (ByteArray × ByteArray × ByteArray × ByteArray × (List (S78)) × Int) := if (l0.length : Int) > 64 then (some ((⟨#[]⟩ : ByteArray), (⟨#[]⟩ : ByteArray), (⟨#[]⟩ : ByteArray), (⟨#[]⟩ : ByteArray), ([] : List (S78)), 4)) else ((spec_l15Heads.f k l0).bind fun t152 => (spec_RequestOf.l0 k l0 t152 0 (⟨#[]⟩ : ByteArray) (⟨#[]⟩ : ByteArray) (⟨#[]⟩ : ByteArray) (⟨#[]⟩ : ByteArray)))
theorem spec_RequestOf.mono_l : ∀ k, (∀ y0 y1 y2 y3 y4 y5 y6, LeO (spec_RequestOf.l0 k y0 y1 y2 y3 y4 y5 y6) (spec_RequestOf.l0 (k + 1) y0 y1 y2 y3 y4 y5 y6))
  | 0 => fun _ _ _ _ _ _ _ r h => by simp [spec_RequestOf.l0] at h
  | k + 1 => by
    have ih0 := spec_RequestOf.mono_l k
    · intro y0 y1 y2 y3 y4 y5 y6
      unfold spec_RequestOf.l0
      repeat' first
      | (with_reducible exact ih0 _ _ _ _ _ _ _)
      | (with_reducible exact spec_l15Heads.mono _ _)
      | (with_reducible exact spec_l15RequestOK.mono _ _ _ _ _ _)
      | (with_reducible exact LeO.refl _)
      | (with_reducible exact LeO.none _)
      | (with_reducible refine LeO.ite ?_ ?_)
      | (with_reducible refine LeO.bind ?_ (fun _ => ?_))
      | exact ih0 _ _ _ _ _ _ _
      | exact spec_l15Heads.mono _ _
      | exact spec_l15RequestOK.mono _ _ _ _ _ _
      | exact LeO.none _
      | refine LeO.ite ?_ ?_
      | refine LeO.bind ?_ (fun _ => ?_)
theorem spec_RequestOf.mono : ∀ a0 k, LeO (spec_RequestOf.f k a0) (spec_RequestOf.f (k + 1) a0) := by
  intro a0 k
  have ih0 := spec_RequestOf.mono_l k
  unfold spec_RequestOf.f
  repeat' first
      | (with_reducible exact ih0 _ _ _ _ _ _ _)
      | (with_reducible exact spec_l15Heads.mono _ _)
      | (with_reducible exact spec_l15RequestOK.mono _ _ _ _ _ _)
      | (with_reducible exact LeO.refl _)
      | (with_reducible exact LeO.none _)
      | (with_reducible refine LeO.ite ?_ ?_)
      | (with_reducible refine LeO.bind ?_ (fun _ => ?_))
      | exact ih0 _ _ _ _ _ _ _
      | exact spec_l15Heads.mono _ _
      | exact spec_l15RequestOK.mono _ _ _ _ _ _
      | exact LeO.none _
      | refine LeO.ite ?_ ?_
      | refine LeO.bind ?_ (fun _ => ?_)
set_option maxHeartbeats 8000000 in
set_option maxRecDepth 100000 in
theorem spec_RequestOf.calls (k : Nat) (A0 : Option Addr) (c0 : Nat) (l0 : List (S78)) (r1 : ByteArray) (r2 : ByteArray) (r3 : ByteArray) (r4 : ByteArray) (r5 : List (S78)) (r6 : Int) (w : World) (hr0 : Kd.C k78 w A0 l0.length l0) (hc0 : l0.length ≤ c0) (h : spec_RequestOf.f k l0 = some (r1, r2, r3, r4, r5, r6)) :
    Calls Tryd.prog 29 #[.slice A0 l0.length c0] w fun e w' => ∃ v4_ : Value, e = .returned (.tuple #[.agg #[.string r1, .string r2, .string r3, .string r4, v4_], .int .i64 r6]) ∧ Kd.R k78 78 w' w.heap.size (fun _ => True) v4_ r5 ∧ Below w.heap.size w w' := by
  have hu44 := Tryd.underlying44
  have HR0 := Aside0.mk hr0
  have HC0 := Aside0.mk hc0
  clear hr0 hc0
  have HB := Aside0.mk (Below.refl w.heap.size w)
  have H : (if (l0.length : Int) > 64 then (some ((⟨#[]⟩ : ByteArray), (⟨#[]⟩ : ByteArray), (⟨#[]⟩ : ByteArray), (⟨#[]⟩ : ByteArray), ([] : List (S78)), 4)) else ((spec_l15Heads.f k l0).bind fun t152 => (spec_RequestOf.l0 k l0 t152 0 (⟨#[]⟩ : ByteArray) (⟨#[]⟩ : ByteArray) (⟨#[]⟩ : ByteArray) (⟨#[]⟩ : ByteArray)))) = some (r1, r2, r3, r4, r5, r6) := h
  clear h
  by_cases c2 : (l0.length : Int) > 64
  · rw [if_pos c2] at H
    have c2b0 : decide (64 < (l0.length : Int)) = true := decide_eq_true c2
    have c2b1 : decide (64 < l0.length) = true := decide_eq_true (by omega)
    clear c2
    simp only [Option.some.injEq, Prod.mk.injEq] at H
    obtain ⟨rfl, rfl, rfl, rfl, rfl, rfl⟩ := H
    go_enter Tryd.func29, Tryd.ntmps29
    go_wp2_with (first | ((with_reducible refine gate_dst (N := 2) rfl ?_); refine box_event ?hg (N := 2) ?hd (cs := #[.string (⟨#[]⟩ : ByteArray), .string (⟨#[]⟩ : ByteArray), .string (⟨#[]⟩ : ByteArray), .string (⟨#[]⟩ : ByteArray), .slice none 0 0]) (t := 44) ?hr ?_; (case hd => rfl); (case hg => rfl); (case hr => first | (go_simp; done) | (go_simp; rfl)); intro gb151 hg w3 hbox hb; have n0_ := Aside0.mk (below_step (by repeat (first | (with_reducible first | exact HB.out | apply below_alloc | apply pw_below_drewN | apply below_drew1) | exact HB.out)) hb); have n1_ := Aside0.mk (hbox); have n2_ := Aside0.mk ((by rw [hg]; exact (below_size (by repeat (first | (with_reducible first | exact HB.out | apply below_alloc | apply pw_below_drewN | apply below_drew1) | exact HB.out))) : w.heap.size ≤ gb151)); have n3_ := Aside0.mk ((by rw [hg]; exact (below_size (by repeat (first | (with_reducible first | exact HB.out | apply below_alloc | apply pw_below_drewN | apply below_drew1) | exact HB.out))) : w.heap.size ≤ gb151)); clear HB; have HB := n0_; have BK151 := n1_; have GW151 := n2_; have GE151 := n3_; clear n0_ n1_ n2_ n3_; clear hb hbox hg; have hcz4_0 : w3.cell? ⟨gb151, 0, none⟩ = some (.string (⟨#[]⟩ : ByteArray)) := (blk_cell BK151.out 0).trans rfl; have hcz4_1 : w3.cell? ⟨gb151, 1, none⟩ = some (.string (⟨#[]⟩ : ByteArray)) := (blk_cell BK151.out 1).trans rfl; have hcz4_2 : w3.cell? ⟨gb151, 2, none⟩ = some (.string (⟨#[]⟩ : ByteArray)) := (blk_cell BK151.out 2).trans rfl; have hcz4_3 : w3.cell? ⟨gb151, 3, none⟩ = some (.string (⟨#[]⟩ : ByteArray)) := (blk_cell BK151.out 3).trans rfl; have hcz4_4 : w3.cell? ⟨gb151, 4, none⟩ = some (.slice none 0 0) := (blk_cell BK151.out 4).trans rfl; have hfz4_0 := blk_frozen BK151.out 0; have hfz4_1 := blk_frozen BK151.out 1; have hfz4_2 := blk_frozen BK151.out 2; have hfz4_3 := blk_frozen BK151.out 3; have hfz4_4 := blk_frozen BK151.out 4))
    refine bodyPost_ret (results_ct rfl _ _ gb151 44 #[.string (⟨#[]⟩ : ByteArray), .string (⟨#[]⟩ : ByteArray), .string (⟨#[]⟩ : ByteArray), .string (⟨#[]⟩ : ByteArray), .slice none 0 0] (0, 0) _ rfl (by (with_reducible repeat (first | refine blk_drewN ?_ _ | refine blk_drew ?_ | refine blk_alloc ?_ _)); refine blk_put (cs := #[.string (⟨#[]⟩ : ByteArray), .string (⟨#[]⟩ : ByteArray), .string (⟨#[]⟩ : ByteArray), .string (⟨#[]⟩ : ByteArray), .slice none 0 0]) ?_ 4 _ rfl; (with_reducible repeat (first | refine blk_drewN ?_ _ | refine blk_drew ?_ | refine blk_alloc ?_ _)); refine blk_put (cs := #[.string (⟨#[]⟩ : ByteArray), .string (⟨#[]⟩ : ByteArray), .string (⟨#[]⟩ : ByteArray), .string (⟨#[]⟩ : ByteArray), .slice none 0 0]) ?_ 3 _ rfl; (with_reducible repeat (first | refine blk_drewN ?_ _ | refine blk_drew ?_ | refine blk_alloc ?_ _)); refine blk_put (cs := #[.string (⟨#[]⟩ : ByteArray), .string (⟨#[]⟩ : ByteArray), .string (⟨#[]⟩ : ByteArray), .string (⟨#[]⟩ : ByteArray), .slice none 0 0]) ?_ 2 _ rfl; (with_reducible repeat (first | refine blk_drewN ?_ _ | refine blk_drew ?_ | refine blk_alloc ?_ _)); refine blk_put (cs := #[.string (⟨#[]⟩ : ByteArray), .string (⟨#[]⟩ : ByteArray), .string (⟨#[]⟩ : ByteArray), .string (⟨#[]⟩ : ByteArray), .slice none 0 0]) ?_ 1 _ rfl; (with_reducible repeat (first | refine blk_drewN ?_ _ | refine blk_drew ?_ | refine blk_alloc ?_ _)); refine blk_put (cs := #[.string (⟨#[]⟩ : ByteArray), .string (⟨#[]⟩ : ByteArray), .string (⟨#[]⟩ : ByteArray), .string (⟨#[]⟩ : ByteArray), .slice none 0 0]) ?_ 0 _ rfl; (with_reducible repeat (first | refine blk_drewN ?_ _ | refine blk_drew ?_ | refine blk_alloc ?_ _)); exact BK151.out) Tryd.underlying44 rfl (by kernel_rfl)) rfl ?_
    exact ⟨_, by first | rfl | (simp [errW_none, errW_some] <;> rfl) | (simp [*, errW_none, errW_some] <;> rfl), by first | exact Kd.R_nil _ _ _ _ _ | exact Kd.N_nil _ _ _ _ _ | exact Kd.V_nil _ _ _ _ _ | exact Kd.Q_nil _ _ _ _ _ | exact Kd.S_nil _ _ _ _ _, by repeat (first | (with_reducible first | exact HB.out | apply below_alloc | apply pw_below_drewN | apply below_drew1 | refine below_set ?_ GE151.out) | exact HB.out)⟩
  · rw [if_neg c2] at H
    have c2b0 : decide (64 < (l0.length : Int)) = false := decide_eq_false c2
    have c2b1 : decide (64 < l0.length) = false := decide_eq_false (by omega)
    clear c2
    replace H := Option.bind_eq_some_iff.mp H
    obtain ⟨t152, A50, H⟩ := H
    replace H : (spec_RequestOf.l0 k l0 t152 0 (⟨#[]⟩ : ByteArray) (⟨#[]⟩ : ByteArray) (⟨#[]⟩ : ByteArray) (⟨#[]⟩ : ByteArray)) = some (r1, r2, r3, r4, r5, r6) := H
    have A5 := Aside0.mk A50
    clear A50
    have H' := Aside0.mk H
    clear H
    go_enter Tryd.func29, Tryd.ntmps29
    go_wp2_with (first | ((with_reducible refine gate_dst (N := 2) rfl ?_); refine box_event ?hg (N := 2) ?hd (cs := #[.string (⟨#[]⟩ : ByteArray), .string (⟨#[]⟩ : ByteArray), .string (⟨#[]⟩ : ByteArray), .string (⟨#[]⟩ : ByteArray), .slice none 0 0]) (t := 44) ?hr ?_; (case hd => rfl); (case hg => rfl); (case hr => first | (go_simp; done) | (go_simp; rfl)); intro gb151 hg w6 hbox hb; have n0_ := Aside0.mk (below_step (by repeat (first | (with_reducible first | exact HB.out | apply below_alloc | apply pw_below_drewN | apply below_drew1) | exact HB.out)) hb); have n1_ := Aside0.mk (hbox); have n2_ := Aside0.mk ((by rw [hg]; exact (below_size (by repeat (first | (with_reducible first | exact HB.out | apply below_alloc | apply pw_below_drewN | apply below_drew1) | exact HB.out))) : w.heap.size ≤ gb151)); have n3_ := Aside0.mk ((by rw [hg]; exact (below_size (by repeat (first | (with_reducible first | exact HB.out | apply below_alloc | apply pw_below_drewN | apply below_drew1) | exact HB.out))) : w.heap.size ≤ gb151)); clear HB; have HB := n0_; have BK151 := n1_; have GW151 := n2_; have GE151 := n3_; clear n0_ n1_ n2_ n3_; clear hb hbox hg) | ((with_reducible refine gate_callee (f := 56) rfl ?_); refine goesL_ (some 13) rfl rfl Tryd.func56 (by kernel_rfl) rfl #[.slice A0 l0.length c0] rfl (by (try simp only [List.map_toArray, List.map_cons, List.map_nil]); first | done | rfl | (simp only [List.length_drop, List.length_take]; rfl)) ?_; (with_reducible refine (spec_l15Heads.calls k _ _ l0 t152 _ ?side1 ?side2 A5.out).mono ?_); (case side1 => repeat (first | exact (Kd.C_below HR0.out HB.out) | (with_reducible refine Kd.C_alloc ?_ _) | (with_reducible refine Kd.C_drewN ?_ _) | (with_reducible refine Kd.C_drew ?_))); (case side2 => exact HC0.out); rintro e w' ⟨rfl, ⟨nd, rfl⟩⟩; refine ⟨_, rfl, ?_⟩; (try (rw [drewN_self w6]; generalize hq_ : World.drewN w6 _ = w6; have n0_ : Aside0 (w6.heap[gb151]? = some (.cells #[.string (⟨#[]⟩ : ByteArray), .string (⟨#[]⟩ : ByteArray), .string (⟨#[]⟩ : ByteArray), .string (⟨#[]⟩ : ByteArray), .slice none 0 0] 44 (0, 0))) := ⟨by rw [← hq_]; exact (by (with_reducible repeat (first | refine blk_drewN ?_ _ | refine blk_drew ?_ | refine blk_alloc ?_ _)); exact BK151.out)⟩; have n1_ : Aside0 (Below w.heap.size w w6) := ⟨by rw [← hq_]; exact (by repeat (first | (with_reducible first | exact HB.out | apply below_alloc | apply pw_below_drewN | apply below_drew1 | refine below_set ?_ GE151.out) | exact HB.out))⟩; clear BK151 HB hq_; have BK151 := n0_; have HB := n1_; clear n0_ n1_))) | ((with_reducible refine gate_dst (N := 5) rfl ?_); refine box_event ?hg (N := 5) ?hd (cs := #[.string (⟨#[]⟩ : ByteArray), .string (⟨#[]⟩ : ByteArray), .string (⟨#[]⟩ : ByteArray), .string (⟨#[]⟩ : ByteArray), .slice none 0 0]) (t := 44) ?hr ?_; (case hd => rfl); (case hg => rfl); (case hr => first | (go_simp; done) | (go_simp; rfl)); intro gb153 hg w7 hbox hb; have n0_ := Aside0.mk (blk_below (g := gb151) (o := .cells #[.string (⟨#[]⟩ : ByteArray), .string (⟨#[]⟩ : ByteArray), .string (⟨#[]⟩ : ByteArray), .string (⟨#[]⟩ : ByteArray), .slice none 0 0] 44 (0, 0)) (by (with_reducible repeat (first | refine blk_drewN ?_ _ | refine blk_drew ?_ | refine blk_alloc ?_ _)); exact BK151.out) hb); have n1_ := Aside0.mk (below_step (by repeat (first | (with_reducible first | exact HB.out | apply below_alloc | apply pw_below_drewN | apply below_drew1 | refine below_set ?_ GE151.out) | exact HB.out)) hb); have n2_ := Aside0.mk (hbox); have n3_ := Aside0.mk ((by rw [hg]; exact (below_size (by repeat (first | (with_reducible first | exact HB.out | apply below_alloc | apply pw_below_drewN | apply below_drew1 | refine below_set ?_ GE151.out) | exact HB.out))) : w.heap.size ≤ gb153)); have n4_ := Aside0.mk ((by rw [hg]; exact (below_size (by repeat (first | (with_reducible first | exact HB.out | apply below_alloc | apply pw_below_drewN | apply below_drew1 | refine below_set ?_ GE151.out) | exact HB.out))) : w.heap.size ≤ gb153)); have n5_ := Aside0.mk ((by rw [hg]; exact Nat.ne_of_lt (blk_lt (g := gb151) (o := .cells #[.string (⟨#[]⟩ : ByteArray), .string (⟨#[]⟩ : ByteArray), .string (⟨#[]⟩ : ByteArray), .string (⟨#[]⟩ : ByteArray), .slice none 0 0] 44 (0, 0)) (by (with_reducible repeat (first | refine blk_drewN ?_ _ | refine blk_drew ?_ | refine blk_alloc ?_ _)); exact BK151.out)) : gb151 ≠ gb153)); have n6_ := Aside0.mk ((by rw [hg]; exact Nat.ne_of_gt (blk_lt (g := gb151) (o := .cells #[.string (⟨#[]⟩ : ByteArray), .string (⟨#[]⟩ : ByteArray), .string (⟨#[]⟩ : ByteArray), .string (⟨#[]⟩ : ByteArray), .slice none 0 0] 44 (0, 0)) (by (with_reducible repeat (first | refine blk_drewN ?_ _ | refine blk_drew ?_ | refine blk_alloc ?_ _)); exact BK151.out)) : gb153 ≠ gb151)); clear BK151; clear HB; have BK151 := n0_; have HB := n1_; have BK153 := n2_; have GW153 := n3_; have GE153 := n4_; have NB151_153 := n5_; have NB153_151 := n6_; clear n0_ n1_ n2_ n3_ n4_ n5_ n6_; clear hb hbox hg; have hnb8 := NB153_151.out; have hnc8 := NB151_153.out; have hcz9_0 : w7.cell? ⟨gb153, 0, none⟩ = some (.string (⟨#[]⟩ : ByteArray)) := (blk_cell BK153.out 0).trans rfl; have hcz9_1 : w7.cell? ⟨gb153, 1, none⟩ = some (.string (⟨#[]⟩ : ByteArray)) := (blk_cell BK153.out 1).trans rfl; have hcz9_2 : w7.cell? ⟨gb153, 2, none⟩ = some (.string (⟨#[]⟩ : ByteArray)) := (blk_cell BK153.out 2).trans rfl; have hcz9_3 : w7.cell? ⟨gb153, 3, none⟩ = some (.string (⟨#[]⟩ : ByteArray)) := (blk_cell BK153.out 3).trans rfl; have hcz9_4 : w7.cell? ⟨gb153, 4, none⟩ = some (.slice none 0 0) := (blk_cell BK153.out 4).trans rfl; have hfz9_0 := blk_frozen BK153.out 0; have hfz9_1 := blk_frozen BK153.out 1; have hfz9_2 := blk_frozen BK153.out 2; have hfz9_3 := blk_frozen BK153.out 3; have hfz9_4 := blk_frozen BK153.out 4))
    go_loopg [6] k (fun kq v6 w' => ∃ (x6_1 : Int) (x152000_1 : ByteArray) (x152001_1 : ByteArray) (x152002_1 : ByteArray) (x152003_1 : ByteArray) (x154000_1 : ByteArray) (x154001_1 : ByteArray) (x154002_1 : ByteArray) (x154003_1 : ByteArray), v6 = .int .i64 x6_1 ∧ Aside0 (spec_RequestOf.l0 kq l0 t152 x6_1 x154000_1 x154001_1 x154002_1 x154003_1 = some (r1, r2, r3, r4, r5, r6)) ∧ Aside0 (kq ≤ k) ∧ Aside0 (w'.heap[gb151]? = some (.cells #[.string x152000_1, .string x152001_1, .string x152002_1, .string x152003_1, (.slice none 0 0)] 44 (0, 0))) ∧ Aside0 (w'.heap[gb153]? = some (.cells #[.string x154000_1, .string x154001_1, .string x154002_1, .string x154003_1, (.slice none 0 0)] 44 (0, 0))) ∧ Aside0 (Below w.heap.size w w'))
    case atStart => exact ⟨(0), ((⟨#[]⟩ : ByteArray)), ((⟨#[]⟩ : ByteArray)), ((⟨#[]⟩ : ByteArray)), ((⟨#[]⟩ : ByteArray)), ((⟨#[]⟩ : ByteArray)), ((⟨#[]⟩ : ByteArray)), ((⟨#[]⟩ : ByteArray)), ((⟨#[]⟩ : ByteArray)), (by first | rfl | (simp; done) | (simp [*]; done)), H', ⟨Nat.le_refl _⟩, ⟨by (with_reducible repeat (first | refine blk_drewN ?_ _ | refine blk_drew ?_ | refine blk_alloc ?_ _)); refine blk_far ?_ NB151_153.out _; (with_reducible repeat (first | refine blk_drewN ?_ _ | refine blk_drew ?_ | refine blk_alloc ?_ _)); refine blk_far ?_ NB151_153.out _; (with_reducible repeat (first | refine blk_drewN ?_ _ | refine blk_drew ?_ | refine blk_alloc ?_ _)); refine blk_far ?_ NB151_153.out _; (with_reducible repeat (first | refine blk_drewN ?_ _ | refine blk_drew ?_ | refine blk_alloc ?_ _)); refine blk_far ?_ NB151_153.out _; (with_reducible repeat (first | refine blk_drewN ?_ _ | refine blk_drew ?_ | refine blk_alloc ?_ _)); refine blk_far ?_ NB151_153.out _; (with_reducible repeat (first | refine blk_drewN ?_ _ | refine blk_drew ?_ | refine blk_alloc ?_ _)); exact BK151.out⟩, ⟨by (with_reducible repeat (first | refine blk_drewN ?_ _ | refine blk_drew ?_ | refine blk_alloc ?_ _)); refine blk_put (cs := #[.string (⟨#[]⟩ : ByteArray), .string (⟨#[]⟩ : ByteArray), .string (⟨#[]⟩ : ByteArray), .string (⟨#[]⟩ : ByteArray), .slice none 0 0]) ?_ 4 _ rfl; (with_reducible repeat (first | refine blk_drewN ?_ _ | refine blk_drew ?_ | refine blk_alloc ?_ _)); refine blk_put (cs := #[.string (⟨#[]⟩ : ByteArray), .string (⟨#[]⟩ : ByteArray), .string (⟨#[]⟩ : ByteArray), .string (⟨#[]⟩ : ByteArray), .slice none 0 0]) ?_ 3 _ rfl; (with_reducible repeat (first | refine blk_drewN ?_ _ | refine blk_drew ?_ | refine blk_alloc ?_ _)); refine blk_put (cs := #[.string (⟨#[]⟩ : ByteArray), .string (⟨#[]⟩ : ByteArray), .string (⟨#[]⟩ : ByteArray), .string (⟨#[]⟩ : ByteArray), .slice none 0 0]) ?_ 2 _ rfl; (with_reducible repeat (first | refine blk_drewN ?_ _ | refine blk_drew ?_ | refine blk_alloc ?_ _)); refine blk_put (cs := #[.string (⟨#[]⟩ : ByteArray), .string (⟨#[]⟩ : ByteArray), .string (⟨#[]⟩ : ByteArray), .string (⟨#[]⟩ : ByteArray), .slice none 0 0]) ?_ 1 _ rfl; (with_reducible repeat (first | refine blk_drewN ?_ _ | refine blk_drew ?_ | refine blk_alloc ?_ _)); refine blk_put (cs := #[.string (⟨#[]⟩ : ByteArray), .string (⟨#[]⟩ : ByteArray), .string (⟨#[]⟩ : ByteArray), .string (⟨#[]⟩ : ByteArray), .slice none 0 0]) ?_ 0 _ rfl; (with_reducible repeat (first | refine blk_drewN ?_ _ | refine blk_drew ?_ | refine blk_alloc ?_ _)); exact BK153.out⟩, ⟨by repeat (first | (with_reducible first | exact HB.out | apply below_alloc | apply pw_below_drewN | apply below_drew1 | refine below_set ?_ GE151.out | refine below_set ?_ GE153.out) | exact HB.out)⟩⟩
    case round =>
      clear H'
      try clear c2
      try clear c2b0
      try clear c2b1
      try clear p2
      try clear c5
      try clear c8
      try clear hcz4_0
      try clear hcz4_1
      try clear hcz4_2
      try clear hcz4_3
      try clear hcz4_4
      try clear hcz9_0
      try clear hcz9_1
      try clear hcz9_2
      try clear hcz9_3
      try clear hcz9_4
      try clear hfz4_0
      try clear hfz4_1
      try clear hfz4_2
      try clear hfz4_3
      try clear hfz4_4
      try clear hfz9_0
      try clear hfz9_1
      try clear hfz9_2
      try clear hfz9_3
      try clear hfz9_4
      obtain ⟨x6_1, x152000_1, x152001_1, x152002_1, x152003_1, x154000_1, x154001_1, x154002_1, x154003_1, rfl, HA, HK1, BK151, BK153, HB⟩ := hrel
      cases gk with
      | zero => exact absurd HA.out (by simp [spec_RequestOf.l0])
      | succ k1 =>
        have H := HA.out
        clear HA
        simp only [spec_RequestOf.l0] at H
        by_cases c10 : x6_1 < t152
        · rw [if_pos c10] at H
          have c10b0 : decide (x6_1 < t152) = true := decide_eq_true c10
          clear c10
          by_cases c11 : 0 ≤ x6_1
          · rw [if_pos c11] at H
            have c11b0 : decide (0 ≤ x6_1) = true := decide_eq_true c11
            clear c11
            by_cases c12 : x6_1 < (l0.length : Int)
            · rw [if_pos c12] at H
              have c12b0 : decide (x6_1 < (l0.length : Int)) = true := decide_eq_true c12
              clear c12
              by_cases c13 : ((rd_T78 l0 x6_1).f0).toList = ([58, 109, 101, 116, 104, 111, 100] : List UInt8)
              · rw [if_pos c13] at H
                have c13b0 : (((rd_T78 l0 x6_1).f0).toList == ([58, 109, 101, 116, 104, 111, 100] : List UInt8)) = true := beq_iff_eq.mpr c13
                have c13b1 : (((rd_T78 l0 x6_1).f0).toList != ([58, 109, 101, 116, 104, 111, 100] : List UInt8)) = false := bne_eq_false_iff_eq.mpr c13
                clear c13
                by_cases c14 : x154000_1.toList = ([] : List UInt8)
                · rw [if_pos c14] at H
                  have c14b0 : (x154000_1.toList == ([] : List UInt8)) = true := beq_iff_eq.mpr c14
                  have c14b1 : (x154000_1.toList != ([] : List UInt8)) = false := bne_eq_false_iff_eq.mpr c14
                  clear c14
                  by_cases c15 : ((rd_T78 l0 x6_1).f1).toList = ([] : List UInt8)
                  · rw [if_pos c15] at H
                    have c15b0 : (((rd_T78 l0 x6_1).f1).toList == ([] : List UInt8)) = true := beq_iff_eq.mpr c15
                    have c15b1 : (((rd_T78 l0 x6_1).f1).toList != ([] : List UInt8)) = false := bne_eq_false_iff_eq.mpr c15
                    clear c15
                    simp only [Option.some.injEq, Prod.mk.injEq] at H
                    obtain ⟨rfl, rfl, rfl, rfl, rfl, rfl⟩ := H
                    have p165 : 0 ≤ (x6_1 : Int) := of_decide_eq_true (by first | (with_reducible assumption) | assumption)
                    have q165 : x6_1 < (l0.length : Int) := of_decide_eq_true (by first | (with_reducible assumption) | assumption)
                    obtain ⟨ad165, e165, hx165_0, hx165_1⟩ := at_T78 HR0.out x6_1 p165 q165
                    cases e165
                    replace hx165_0 := (HB.out.cell (World.block_lt_of_cell? w _ hx165_0)).trans hx165_0
                    replace hx165_1 := (HB.out.cell (World.block_lt_of_cell? w _ hx165_1)).trans hx165_1
                    replace p165 := eq_true p165
                    replace q165 := eq_true q165
                    have hnb16 := NB153_151.out
                    have hnc16 := NB151_153.out
                    have hcz17_0 : wr.cell? ⟨gb153, 0, none⟩ = some (.string x154000_1) := (blk_cell BK153.out 0).trans rfl
                    have hcz17_1 : wr.cell? ⟨gb153, 1, none⟩ = some (.string x154001_1) := (blk_cell BK153.out 1).trans rfl
                    have hcz17_2 : wr.cell? ⟨gb153, 2, none⟩ = some (.string x154002_1) := (blk_cell BK153.out 2).trans rfl
                    have hcz17_3 : wr.cell? ⟨gb153, 3, none⟩ = some (.string x154003_1) := (blk_cell BK153.out 3).trans rfl
                    have hcz17_4 : wr.cell? ⟨gb153, 4, none⟩ = some (.slice none 0 0) := (blk_cell BK153.out 4).trans rfl
                    have hfz17_0 := blk_frozen BK153.out 0
                    have hfz17_1 := blk_frozen BK153.out 1
                    have hfz17_2 := blk_frozen BK153.out 2
                    have hfz17_3 := blk_frozen BK153.out 3
                    have hfz17_4 := blk_frozen BK153.out 4
                    have p166 : 0 ≤ (x6_1 : Int) := of_decide_eq_true (by first | (with_reducible assumption) | assumption)
                    have q166 : x6_1 < (l0.length : Int) := of_decide_eq_true (by first | (with_reducible assumption) | assumption)
                    obtain ⟨ad166, e166, hx166_0, hx166_1⟩ := at_T78 HR0.out x6_1 p166 q166
                    obtain rfl : ad165 = ad166 := (by injection e166)
                    replace hx166_0 := (HB.out.cell (World.block_lt_of_cell? w _ hx166_0)).trans hx166_0
                    replace hx166_1 := (HB.out.cell (World.block_lt_of_cell? w _ hx166_1)).trans hx166_1
                    replace p166 := eq_true p166
                    replace q166 := eq_true q166
                    have p167 : 0 ≤ (x6_1 : Int) := of_decide_eq_true (by first | (with_reducible assumption) | assumption)
                    have q167 : x6_1 < (l0.length : Int) := of_decide_eq_true (by first | (with_reducible assumption) | assumption)
                    obtain ⟨ad167, e167, hx167_0, hx167_1⟩ := at_T78 HR0.out x6_1 p167 q167
                    obtain rfl : ad165 = ad167 := (by injection e167)
                    have hn167_0 : ad165.block ≠ gb153 := Nat.ne_of_lt (Nat.lt_of_lt_of_le (by have := World.block_lt_of_cell? _ _ hx167_0; first | rwa [add_block] at this | exact this) GW153.out)
                    replace hx167_0 := (HB.out.cell (World.block_lt_of_cell? w _ hx167_0)).trans hx167_0
                    replace hx167_1 := (HB.out.cell (World.block_lt_of_cell? w _ hx167_1)).trans hx167_1
                    replace hx167_0 := (cell_far (p := ⟨gb153, 0, none⟩) (by first | (rw [add_block]; exact hn167_0) | (show (Addr.add _ _).block ≠ _; rw [add_block]; exact hn167_0) | exact hn167_0) (.string ((rd_T78 l0 x6_1).f1))).trans hx167_0
                    replace hx167_1 := (cell_far (p := ⟨gb153, 0, none⟩) (by first | (rw [add_block]; exact hn167_0) | (show (Addr.add _ _).block ≠ _; rw [add_block]; exact hn167_0) | exact hn167_0) (.string ((rd_T78 l0 x6_1).f1))).trans hx167_1
                    clear hn167_0
                    replace p167 := eq_true p167
                    replace q167 := eq_true q167
                    have hcz18_0 : wr.cell? ⟨gb151, 0, none⟩ = some (.string x152000_1) := (blk_cell BK151.out 0).trans rfl
                    have hcz18_1 : wr.cell? ⟨gb151, 1, none⟩ = some (.string x152001_1) := (blk_cell BK151.out 1).trans rfl
                    have hcz18_2 : wr.cell? ⟨gb151, 2, none⟩ = some (.string x152002_1) := (blk_cell BK151.out 2).trans rfl
                    have hcz18_3 : wr.cell? ⟨gb151, 3, none⟩ = some (.string x152003_1) := (blk_cell BK151.out 3).trans rfl
                    have hcz18_4 : wr.cell? ⟨gb151, 4, none⟩ = some (.slice none 0 0) := (blk_cell BK151.out 4).trans rfl
                    have hfz18_0 := blk_frozen BK151.out 0
                    have hfz18_1 := blk_frozen BK151.out 1
                    have hfz18_2 := blk_frozen BK151.out 2
                    have hfz18_3 := blk_frozen BK151.out 3
                    have hfz18_4 := blk_frozen BK151.out 4
                    go_wp2
                    refine bodyPost_ret (results_ct rfl _ _ gb151 44 #[.string (⟨#[]⟩ : ByteArray), .string (⟨#[]⟩ : ByteArray), .string (⟨#[]⟩ : ByteArray), .string (⟨#[]⟩ : ByteArray), .slice none 0 0] (0, 0) _ rfl (by (with_reducible repeat (first | refine blk_drewN ?_ _ | refine blk_drew ?_ | refine blk_alloc ?_ _)); refine blk_put (cs := #[.string (⟨#[]⟩ : ByteArray), .string (⟨#[]⟩ : ByteArray), .string (⟨#[]⟩ : ByteArray), .string (⟨#[]⟩ : ByteArray), .slice none 0 0]) ?_ 4 _ rfl; (with_reducible repeat (first | refine blk_drewN ?_ _ | refine blk_drew ?_ | refine blk_alloc ?_ _)); refine blk_put (cs := #[.string (⟨#[]⟩ : ByteArray), .string (⟨#[]⟩ : ByteArray), .string (⟨#[]⟩ : ByteArray), .string x152003_1, .slice none 0 0]) ?_ 3 _ rfl; (with_reducible repeat (first | refine blk_drewN ?_ _ | refine blk_drew ?_ | refine blk_alloc ?_ _)); refine blk_put (cs := #[.string (⟨#[]⟩ : ByteArray), .string (⟨#[]⟩ : ByteArray), .string x152002_1, .string x152003_1, .slice none 0 0]) ?_ 2 _ rfl; (with_reducible repeat (first | refine blk_drewN ?_ _ | refine blk_drew ?_ | refine blk_alloc ?_ _)); refine blk_put (cs := #[.string (⟨#[]⟩ : ByteArray), .string x152001_1, .string x152002_1, .string x152003_1, .slice none 0 0]) ?_ 1 _ rfl; (with_reducible repeat (first | refine blk_drewN ?_ _ | refine blk_drew ?_ | refine blk_alloc ?_ _)); refine blk_put (cs := #[.string x152000_1, .string x152001_1, .string x152002_1, .string x152003_1, .slice none 0 0]) ?_ 0 _ rfl; (with_reducible repeat (first | refine blk_drewN ?_ _ | refine blk_drew ?_ | refine blk_alloc ?_ _)); refine blk_far ?_ NB151_153.out _; (with_reducible repeat (first | refine blk_drewN ?_ _ | refine blk_drew ?_ | refine blk_alloc ?_ _)); exact BK151.out) Tryd.underlying44 rfl (by kernel_rfl)) rfl ?_
                    exact ⟨_, by first | rfl | (simp [errW_none, errW_some] <;> rfl) | (simp [*, errW_none, errW_some] <;> rfl), by first | exact Kd.R_nil _ _ _ _ _ | exact Kd.N_nil _ _ _ _ _ | exact Kd.V_nil _ _ _ _ _ | exact Kd.Q_nil _ _ _ _ _ | exact Kd.S_nil _ _ _ _ _, by repeat (first | (with_reducible first | exact HB.out | apply below_alloc | apply pw_below_drewN | apply below_drew1 | refine below_set ?_ GE151.out | refine below_set ?_ GE153.out) | exact HB.out)⟩
                  · rw [if_neg c15] at H
                    have c15b0 : (((rd_T78 l0 x6_1).f1).toList == ([] : List UInt8)) = false := beq_eq_false_iff_ne.mpr c15
                    have c15b1 : (((rd_T78 l0 x6_1).f1).toList != ([] : List UInt8)) = true := bne_iff_ne.mpr c15
                    have H' := Aside0.mk H
                    clear H
                    have p165 : 0 ≤ (x6_1 : Int) := of_decide_eq_true (by first | (with_reducible assumption) | assumption)
                    have q165 : x6_1 < (l0.length : Int) := of_decide_eq_true (by first | (with_reducible assumption) | assumption)
                    obtain ⟨ad165, e165, hx165_0, hx165_1⟩ := at_T78 HR0.out x6_1 p165 q165
                    cases e165
                    replace hx165_0 := (HB.out.cell (World.block_lt_of_cell? w _ hx165_0)).trans hx165_0
                    replace hx165_1 := (HB.out.cell (World.block_lt_of_cell? w _ hx165_1)).trans hx165_1
                    replace p165 := eq_true p165
                    replace q165 := eq_true q165
                    have hnb19 := NB153_151.out
                    have hnc19 := NB151_153.out
                    have hcz20_0 : wr.cell? ⟨gb153, 0, none⟩ = some (.string x154000_1) := (blk_cell BK153.out 0).trans rfl
                    have hcz20_1 : wr.cell? ⟨gb153, 1, none⟩ = some (.string x154001_1) := (blk_cell BK153.out 1).trans rfl
                    have hcz20_2 : wr.cell? ⟨gb153, 2, none⟩ = some (.string x154002_1) := (blk_cell BK153.out 2).trans rfl
                    have hcz20_3 : wr.cell? ⟨gb153, 3, none⟩ = some (.string x154003_1) := (blk_cell BK153.out 3).trans rfl
                    have hcz20_4 : wr.cell? ⟨gb153, 4, none⟩ = some (.slice none 0 0) := (blk_cell BK153.out 4).trans rfl
                    have hfz20_0 := blk_frozen BK153.out 0
                    have hfz20_1 := blk_frozen BK153.out 1
                    have hfz20_2 := blk_frozen BK153.out 2
                    have hfz20_3 := blk_frozen BK153.out 3
                    have hfz20_4 := blk_frozen BK153.out 4
                    have p166 : 0 ≤ (x6_1 : Int) := of_decide_eq_true (by first | (with_reducible assumption) | assumption)
                    have q166 : x6_1 < (l0.length : Int) := of_decide_eq_true (by first | (with_reducible assumption) | assumption)
                    obtain ⟨ad166, e166, hx166_0, hx166_1⟩ := at_T78 HR0.out x6_1 p166 q166
                    obtain rfl : ad165 = ad166 := (by injection e166)
                    replace hx166_0 := (HB.out.cell (World.block_lt_of_cell? w _ hx166_0)).trans hx166_0
                    replace hx166_1 := (HB.out.cell (World.block_lt_of_cell? w _ hx166_1)).trans hx166_1
                    replace p166 := eq_true p166
                    replace q166 := eq_true q166
                    have p167 : 0 ≤ (x6_1 : Int) := of_decide_eq_true (by first | (with_reducible assumption) | assumption)
                    have q167 : x6_1 < (l0.length : Int) := of_decide_eq_true (by first | (with_reducible assumption) | assumption)
                    obtain ⟨ad167, e167, hx167_0, hx167_1⟩ := at_T78 HR0.out x6_1 p167 q167
                    obtain rfl : ad165 = ad167 := (by injection e167)
                    have hn167_0 : ad165.block ≠ gb153 := Nat.ne_of_lt (Nat.lt_of_lt_of_le (by have := World.block_lt_of_cell? _ _ hx167_0; first | rwa [add_block] at this | exact this) GW153.out)
                    replace hx167_0 := (HB.out.cell (World.block_lt_of_cell? w _ hx167_0)).trans hx167_0
                    replace hx167_1 := (HB.out.cell (World.block_lt_of_cell? w _ hx167_1)).trans hx167_1
                    replace hx167_0 := (cell_far (p := ⟨gb153, 0, none⟩) (by first | (rw [add_block]; exact hn167_0) | (show (Addr.add _ _).block ≠ _; rw [add_block]; exact hn167_0) | exact hn167_0) (.string ((rd_T78 l0 x6_1).f1))).trans hx167_0
                    replace hx167_1 := (cell_far (p := ⟨gb153, 0, none⟩) (by first | (rw [add_block]; exact hn167_0) | (show (Addr.add _ _).block ≠ _; rw [add_block]; exact hn167_0) | exact hn167_0) (.string ((rd_T78 l0 x6_1).f1))).trans hx167_1
                    clear hn167_0
                    replace p167 := eq_true p167
                    replace q167 := eq_true q167
                    go_wp2
                    go_roundg k1
                    case measure => have := HK1.out; omega
                    case rel => exact ⟨(wrap64 (x6_1 + 1)), (x152000_1), (x152001_1), (x152002_1), (x152003_1), ((rd_T78 l0 x6_1).f1), (x154001_1), (x154002_1), (x154003_1), (by first | rfl | (simp; done) | (simp [*]; done)), H', ⟨by have := HK1.out; omega⟩, ⟨by (with_reducible repeat (first | refine blk_drewN ?_ _ | refine blk_drew ?_ | refine blk_alloc ?_ _)); refine blk_far ?_ NB151_153.out _; (with_reducible repeat (first | refine blk_drewN ?_ _ | refine blk_drew ?_ | refine blk_alloc ?_ _)); exact BK151.out⟩, ⟨by (with_reducible repeat (first | refine blk_drewN ?_ _ | refine blk_drew ?_ | refine blk_alloc ?_ _)); refine blk_put (cs := #[.string x154000_1, .string x154001_1, .string x154002_1, .string x154003_1, .slice none 0 0]) ?_ 0 _ rfl; (with_reducible repeat (first | refine blk_drewN ?_ _ | refine blk_drew ?_ | refine blk_alloc ?_ _)); exact BK153.out⟩, ⟨by repeat (first | (with_reducible first | exact HB.out | apply below_alloc | apply pw_below_drewN | apply below_drew1 | refine below_set ?_ GE151.out | refine below_set ?_ GE153.out) | exact HB.out)⟩⟩
                · rw [if_neg c14] at H
                  have c14b0 : (x154000_1.toList == ([] : List UInt8)) = false := beq_eq_false_iff_ne.mpr c14
                  have c14b1 : (x154000_1.toList != ([] : List UInt8)) = true := bne_iff_ne.mpr c14
                  simp only [Option.some.injEq, Prod.mk.injEq] at H
                  obtain ⟨rfl, rfl, rfl, rfl, rfl, rfl⟩ := H
                  have p165 : 0 ≤ (x6_1 : Int) := of_decide_eq_true (by first | (with_reducible assumption) | assumption)
                  have q165 : x6_1 < (l0.length : Int) := of_decide_eq_true (by first | (with_reducible assumption) | assumption)
                  obtain ⟨ad165, e165, hx165_0, hx165_1⟩ := at_T78 HR0.out x6_1 p165 q165
                  cases e165
                  replace hx165_0 := (HB.out.cell (World.block_lt_of_cell? w _ hx165_0)).trans hx165_0
                  replace hx165_1 := (HB.out.cell (World.block_lt_of_cell? w _ hx165_1)).trans hx165_1
                  replace p165 := eq_true p165
                  replace q165 := eq_true q165
                  have hnb21 := NB153_151.out
                  have hnc21 := NB151_153.out
                  have hcz22_0 : wr.cell? ⟨gb153, 0, none⟩ = some (.string x154000_1) := (blk_cell BK153.out 0).trans rfl
                  have hcz22_1 : wr.cell? ⟨gb153, 1, none⟩ = some (.string x154001_1) := (blk_cell BK153.out 1).trans rfl
                  have hcz22_2 : wr.cell? ⟨gb153, 2, none⟩ = some (.string x154002_1) := (blk_cell BK153.out 2).trans rfl
                  have hcz22_3 : wr.cell? ⟨gb153, 3, none⟩ = some (.string x154003_1) := (blk_cell BK153.out 3).trans rfl
                  have hcz22_4 : wr.cell? ⟨gb153, 4, none⟩ = some (.slice none 0 0) := (blk_cell BK153.out 4).trans rfl
                  have hfz22_0 := blk_frozen BK153.out 0
                  have hfz22_1 := blk_frozen BK153.out 1
                  have hfz22_2 := blk_frozen BK153.out 2
                  have hfz22_3 := blk_frozen BK153.out 3
                  have hfz22_4 := blk_frozen BK153.out 4
                  have p166 : 0 ≤ (x6_1 : Int) := of_decide_eq_true (by first | (with_reducible assumption) | assumption)
                  have q166 : x6_1 < (l0.length : Int) := of_decide_eq_true (by first | (with_reducible assumption) | assumption)
                  obtain ⟨ad166, e166, hx166_0, hx166_1⟩ := at_T78 HR0.out x6_1 p166 q166
                  obtain rfl : ad165 = ad166 := (by injection e166)
                  replace hx166_0 := (HB.out.cell (World.block_lt_of_cell? w _ hx166_0)).trans hx166_0
                  replace hx166_1 := (HB.out.cell (World.block_lt_of_cell? w _ hx166_1)).trans hx166_1
                  replace p166 := eq_true p166
                  replace q166 := eq_true q166
                  have hcz23_0 : wr.cell? ⟨gb151, 0, none⟩ = some (.string x152000_1) := (blk_cell BK151.out 0).trans rfl
                  have hcz23_1 : wr.cell? ⟨gb151, 1, none⟩ = some (.string x152001_1) := (blk_cell BK151.out 1).trans rfl
                  have hcz23_2 : wr.cell? ⟨gb151, 2, none⟩ = some (.string x152002_1) := (blk_cell BK151.out 2).trans rfl
                  have hcz23_3 : wr.cell? ⟨gb151, 3, none⟩ = some (.string x152003_1) := (blk_cell BK151.out 3).trans rfl
                  have hcz23_4 : wr.cell? ⟨gb151, 4, none⟩ = some (.slice none 0 0) := (blk_cell BK151.out 4).trans rfl
                  have hfz23_0 := blk_frozen BK151.out 0
                  have hfz23_1 := blk_frozen BK151.out 1
                  have hfz23_2 := blk_frozen BK151.out 2
                  have hfz23_3 := blk_frozen BK151.out 3
                  have hfz23_4 := blk_frozen BK151.out 4
                  go_wp2
                  refine bodyPost_ret (results_ct rfl _ _ gb151 44 #[.string (⟨#[]⟩ : ByteArray), .string (⟨#[]⟩ : ByteArray), .string (⟨#[]⟩ : ByteArray), .string (⟨#[]⟩ : ByteArray), .slice none 0 0] (0, 0) _ rfl (by (with_reducible repeat (first | refine blk_drewN ?_ _ | refine blk_drew ?_ | refine blk_alloc ?_ _)); refine blk_put (cs := #[.string (⟨#[]⟩ : ByteArray), .string (⟨#[]⟩ : ByteArray), .string (⟨#[]⟩ : ByteArray), .string (⟨#[]⟩ : ByteArray), .slice none 0 0]) ?_ 4 _ rfl; (with_reducible repeat (first | refine blk_drewN ?_ _ | refine blk_drew ?_ | refine blk_alloc ?_ _)); refine blk_put (cs := #[.string (⟨#[]⟩ : ByteArray), .string (⟨#[]⟩ : ByteArray), .string (⟨#[]⟩ : ByteArray), .string x152003_1, .slice none 0 0]) ?_ 3 _ rfl; (with_reducible repeat (first | refine blk_drewN ?_ _ | refine blk_drew ?_ | refine blk_alloc ?_ _)); refine blk_put (cs := #[.string (⟨#[]⟩ : ByteArray), .string (⟨#[]⟩ : ByteArray), .string x152002_1, .string x152003_1, .slice none 0 0]) ?_ 2 _ rfl; (with_reducible repeat (first | refine blk_drewN ?_ _ | refine blk_drew ?_ | refine blk_alloc ?_ _)); refine blk_put (cs := #[.string (⟨#[]⟩ : ByteArray), .string x152001_1, .string x152002_1, .string x152003_1, .slice none 0 0]) ?_ 1 _ rfl; (with_reducible repeat (first | refine blk_drewN ?_ _ | refine blk_drew ?_ | refine blk_alloc ?_ _)); refine blk_put (cs := #[.string x152000_1, .string x152001_1, .string x152002_1, .string x152003_1, .slice none 0 0]) ?_ 0 _ rfl; (with_reducible repeat (first | refine blk_drewN ?_ _ | refine blk_drew ?_ | refine blk_alloc ?_ _)); refine blk_far ?_ NB151_153.out _; (with_reducible repeat (first | refine blk_drewN ?_ _ | refine blk_drew ?_ | refine blk_alloc ?_ _)); exact BK151.out) Tryd.underlying44 rfl (by kernel_rfl)) rfl ?_
                  exact ⟨_, by first | rfl | (simp [errW_none, errW_some] <;> rfl) | (simp [*, errW_none, errW_some] <;> rfl), by first | exact Kd.R_nil _ _ _ _ _ | exact Kd.N_nil _ _ _ _ _ | exact Kd.V_nil _ _ _ _ _ | exact Kd.Q_nil _ _ _ _ _ | exact Kd.S_nil _ _ _ _ _, by repeat (first | (with_reducible first | exact HB.out | apply below_alloc | apply pw_below_drewN | apply below_drew1 | refine below_set ?_ GE151.out | refine below_set ?_ GE153.out) | exact HB.out)⟩
              · rw [if_neg c13] at H
                have c13b0 : (((rd_T78 l0 x6_1).f0).toList == ([58, 109, 101, 116, 104, 111, 100] : List UInt8)) = false := beq_eq_false_iff_ne.mpr c13
                have c13b1 : (((rd_T78 l0 x6_1).f0).toList != ([58, 109, 101, 116, 104, 111, 100] : List UInt8)) = true := bne_iff_ne.mpr c13
                by_cases c24 : ((rd_T78 l0 x6_1).f0).toList = ([58, 115, 99, 104, 101, 109, 101] : List UInt8)
                · rw [if_pos c24] at H
                  have c24b0 : (((rd_T78 l0 x6_1).f0).toList == ([58, 115, 99, 104, 101, 109, 101] : List UInt8)) = true := beq_iff_eq.mpr c24
                  have c24b1 : (((rd_T78 l0 x6_1).f0).toList != ([58, 115, 99, 104, 101, 109, 101] : List UInt8)) = false := bne_eq_false_iff_eq.mpr c24
                  clear c24
                  by_cases c25 : x154001_1.toList = ([] : List UInt8)
                  · rw [if_pos c25] at H
                    have c25b0 : (x154001_1.toList == ([] : List UInt8)) = true := beq_iff_eq.mpr c25
                    have c25b1 : (x154001_1.toList != ([] : List UInt8)) = false := bne_eq_false_iff_eq.mpr c25
                    clear c25
                    by_cases c26 : ((rd_T78 l0 x6_1).f1).toList = ([] : List UInt8)
                    · rw [if_pos c26] at H
                      have c26b0 : (((rd_T78 l0 x6_1).f1).toList == ([] : List UInt8)) = true := beq_iff_eq.mpr c26
                      have c26b1 : (((rd_T78 l0 x6_1).f1).toList != ([] : List UInt8)) = false := bne_eq_false_iff_eq.mpr c26
                      clear c26
                      simp only [Option.some.injEq, Prod.mk.injEq] at H
                      obtain ⟨rfl, rfl, rfl, rfl, rfl, rfl⟩ := H
                      have p165 : 0 ≤ (x6_1 : Int) := of_decide_eq_true (by first | (with_reducible assumption) | assumption)
                      have q165 : x6_1 < (l0.length : Int) := of_decide_eq_true (by first | (with_reducible assumption) | assumption)
                      obtain ⟨ad165, e165, hx165_0, hx165_1⟩ := at_T78 HR0.out x6_1 p165 q165
                      cases e165
                      replace hx165_0 := (HB.out.cell (World.block_lt_of_cell? w _ hx165_0)).trans hx165_0
                      replace hx165_1 := (HB.out.cell (World.block_lt_of_cell? w _ hx165_1)).trans hx165_1
                      replace p165 := eq_true p165
                      replace q165 := eq_true q165
                      have hnb27 := NB153_151.out
                      have hnc27 := NB151_153.out
                      have hcz28_0 : wr.cell? ⟨gb153, 0, none⟩ = some (.string x154000_1) := (blk_cell BK153.out 0).trans rfl
                      have hcz28_1 : wr.cell? ⟨gb153, 1, none⟩ = some (.string x154001_1) := (blk_cell BK153.out 1).trans rfl
                      have hcz28_2 : wr.cell? ⟨gb153, 2, none⟩ = some (.string x154002_1) := (blk_cell BK153.out 2).trans rfl
                      have hcz28_3 : wr.cell? ⟨gb153, 3, none⟩ = some (.string x154003_1) := (blk_cell BK153.out 3).trans rfl
                      have hcz28_4 : wr.cell? ⟨gb153, 4, none⟩ = some (.slice none 0 0) := (blk_cell BK153.out 4).trans rfl
                      have hfz28_0 := blk_frozen BK153.out 0
                      have hfz28_1 := blk_frozen BK153.out 1
                      have hfz28_2 := blk_frozen BK153.out 2
                      have hfz28_3 := blk_frozen BK153.out 3
                      have hfz28_4 := blk_frozen BK153.out 4
                      have p168 : 0 ≤ (x6_1 : Int) := of_decide_eq_true (by first | (with_reducible assumption) | assumption)
                      have q168 : x6_1 < (l0.length : Int) := of_decide_eq_true (by first | (with_reducible assumption) | assumption)
                      obtain ⟨ad168, e168, hx168_0, hx168_1⟩ := at_T78 HR0.out x6_1 p168 q168
                      obtain rfl : ad165 = ad168 := (by injection e168)
                      replace hx168_0 := (HB.out.cell (World.block_lt_of_cell? w _ hx168_0)).trans hx168_0
                      replace hx168_1 := (HB.out.cell (World.block_lt_of_cell? w _ hx168_1)).trans hx168_1
                      replace p168 := eq_true p168
                      replace q168 := eq_true q168
                      have p169 : 0 ≤ (x6_1 : Int) := of_decide_eq_true (by first | (with_reducible assumption) | assumption)
                      have q169 : x6_1 < (l0.length : Int) := of_decide_eq_true (by first | (with_reducible assumption) | assumption)
                      obtain ⟨ad169, e169, hx169_0, hx169_1⟩ := at_T78 HR0.out x6_1 p169 q169
                      obtain rfl : ad165 = ad169 := (by injection e169)
                      have hn169_0 : ad165.block ≠ gb153 := Nat.ne_of_lt (Nat.lt_of_lt_of_le (by have := World.block_lt_of_cell? _ _ hx169_0; first | rwa [add_block] at this | exact this) GW153.out)
                      replace hx169_0 := (HB.out.cell (World.block_lt_of_cell? w _ hx169_0)).trans hx169_0
                      replace hx169_1 := (HB.out.cell (World.block_lt_of_cell? w _ hx169_1)).trans hx169_1
                      replace hx169_0 := (cell_far (p := ⟨gb153, 1, none⟩) (by first | (rw [add_block]; exact hn169_0) | (show (Addr.add _ _).block ≠ _; rw [add_block]; exact hn169_0) | exact hn169_0) (.string ((rd_T78 l0 x6_1).f1))).trans hx169_0
                      replace hx169_1 := (cell_far (p := ⟨gb153, 1, none⟩) (by first | (rw [add_block]; exact hn169_0) | (show (Addr.add _ _).block ≠ _; rw [add_block]; exact hn169_0) | exact hn169_0) (.string ((rd_T78 l0 x6_1).f1))).trans hx169_1
                      clear hn169_0
                      replace p169 := eq_true p169
                      replace q169 := eq_true q169
                      have hcz29_0 : wr.cell? ⟨gb151, 0, none⟩ = some (.string x152000_1) := (blk_cell BK151.out 0).trans rfl
                      have hcz29_1 : wr.cell? ⟨gb151, 1, none⟩ = some (.string x152001_1) := (blk_cell BK151.out 1).trans rfl
                      have hcz29_2 : wr.cell? ⟨gb151, 2, none⟩ = some (.string x152002_1) := (blk_cell BK151.out 2).trans rfl
                      have hcz29_3 : wr.cell? ⟨gb151, 3, none⟩ = some (.string x152003_1) := (blk_cell BK151.out 3).trans rfl
                      have hcz29_4 : wr.cell? ⟨gb151, 4, none⟩ = some (.slice none 0 0) := (blk_cell BK151.out 4).trans rfl
                      have hfz29_0 := blk_frozen BK151.out 0
                      have hfz29_1 := blk_frozen BK151.out 1
                      have hfz29_2 := blk_frozen BK151.out 2
                      have hfz29_3 := blk_frozen BK151.out 3
                      have hfz29_4 := blk_frozen BK151.out 4
                      go_wp2
                      refine bodyPost_ret (results_ct rfl _ _ gb151 44 #[.string (⟨#[]⟩ : ByteArray), .string (⟨#[]⟩ : ByteArray), .string (⟨#[]⟩ : ByteArray), .string (⟨#[]⟩ : ByteArray), .slice none 0 0] (0, 0) _ rfl (by (with_reducible repeat (first | refine blk_drewN ?_ _ | refine blk_drew ?_ | refine blk_alloc ?_ _)); refine blk_put (cs := #[.string (⟨#[]⟩ : ByteArray), .string (⟨#[]⟩ : ByteArray), .string (⟨#[]⟩ : ByteArray), .string (⟨#[]⟩ : ByteArray), .slice none 0 0]) ?_ 4 _ rfl; (with_reducible repeat (first | refine blk_drewN ?_ _ | refine blk_drew ?_ | refine blk_alloc ?_ _)); refine blk_put (cs := #[.string (⟨#[]⟩ : ByteArray), .string (⟨#[]⟩ : ByteArray), .string (⟨#[]⟩ : ByteArray), .string x152003_1, .slice none 0 0]) ?_ 3 _ rfl; (with_reducible repeat (first | refine blk_drewN ?_ _ | refine blk_drew ?_ | refine blk_alloc ?_ _)); refine blk_put (cs := #[.string (⟨#[]⟩ : ByteArray), .string (⟨#[]⟩ : ByteArray), .string x152002_1, .string x152003_1, .slice none 0 0]) ?_ 2 _ rfl; (with_reducible repeat (first | refine blk_drewN ?_ _ | refine blk_drew ?_ | refine blk_alloc ?_ _)); refine blk_put (cs := #[.string (⟨#[]⟩ : ByteArray), .string x152001_1, .string x152002_1, .string x152003_1, .slice none 0 0]) ?_ 1 _ rfl; (with_reducible repeat (first | refine blk_drewN ?_ _ | refine blk_drew ?_ | refine blk_alloc ?_ _)); refine blk_put (cs := #[.string x152000_1, .string x152001_1, .string x152002_1, .string x152003_1, .slice none 0 0]) ?_ 0 _ rfl; (with_reducible repeat (first | refine blk_drewN ?_ _ | refine blk_drew ?_ | refine blk_alloc ?_ _)); refine blk_far ?_ NB151_153.out _; (with_reducible repeat (first | refine blk_drewN ?_ _ | refine blk_drew ?_ | refine blk_alloc ?_ _)); exact BK151.out) Tryd.underlying44 rfl (by kernel_rfl)) rfl ?_
                      exact ⟨_, by first | rfl | (simp [errW_none, errW_some] <;> rfl) | (simp [*, errW_none, errW_some] <;> rfl), by first | exact Kd.R_nil _ _ _ _ _ | exact Kd.N_nil _ _ _ _ _ | exact Kd.V_nil _ _ _ _ _ | exact Kd.Q_nil _ _ _ _ _ | exact Kd.S_nil _ _ _ _ _, by repeat (first | (with_reducible first | exact HB.out | apply below_alloc | apply pw_below_drewN | apply below_drew1 | refine below_set ?_ GE151.out | refine below_set ?_ GE153.out) | exact HB.out)⟩
                    · rw [if_neg c26] at H
                      have c26b0 : (((rd_T78 l0 x6_1).f1).toList == ([] : List UInt8)) = false := beq_eq_false_iff_ne.mpr c26
                      have c26b1 : (((rd_T78 l0 x6_1).f1).toList != ([] : List UInt8)) = true := bne_iff_ne.mpr c26
                      have H' := Aside0.mk H
                      clear H
                      have p165 : 0 ≤ (x6_1 : Int) := of_decide_eq_true (by first | (with_reducible assumption) | assumption)
                      have q165 : x6_1 < (l0.length : Int) := of_decide_eq_true (by first | (with_reducible assumption) | assumption)
                      obtain ⟨ad165, e165, hx165_0, hx165_1⟩ := at_T78 HR0.out x6_1 p165 q165
                      cases e165
                      replace hx165_0 := (HB.out.cell (World.block_lt_of_cell? w _ hx165_0)).trans hx165_0
                      replace hx165_1 := (HB.out.cell (World.block_lt_of_cell? w _ hx165_1)).trans hx165_1
                      replace p165 := eq_true p165
                      replace q165 := eq_true q165
                      have hnb30 := NB153_151.out
                      have hnc30 := NB151_153.out
                      have hcz31_0 : wr.cell? ⟨gb153, 0, none⟩ = some (.string x154000_1) := (blk_cell BK153.out 0).trans rfl
                      have hcz31_1 : wr.cell? ⟨gb153, 1, none⟩ = some (.string x154001_1) := (blk_cell BK153.out 1).trans rfl
                      have hcz31_2 : wr.cell? ⟨gb153, 2, none⟩ = some (.string x154002_1) := (blk_cell BK153.out 2).trans rfl
                      have hcz31_3 : wr.cell? ⟨gb153, 3, none⟩ = some (.string x154003_1) := (blk_cell BK153.out 3).trans rfl
                      have hcz31_4 : wr.cell? ⟨gb153, 4, none⟩ = some (.slice none 0 0) := (blk_cell BK153.out 4).trans rfl
                      have hfz31_0 := blk_frozen BK153.out 0
                      have hfz31_1 := blk_frozen BK153.out 1
                      have hfz31_2 := blk_frozen BK153.out 2
                      have hfz31_3 := blk_frozen BK153.out 3
                      have hfz31_4 := blk_frozen BK153.out 4
                      have p168 : 0 ≤ (x6_1 : Int) := of_decide_eq_true (by first | (with_reducible assumption) | assumption)
                      have q168 : x6_1 < (l0.length : Int) := of_decide_eq_true (by first | (with_reducible assumption) | assumption)
                      obtain ⟨ad168, e168, hx168_0, hx168_1⟩ := at_T78 HR0.out x6_1 p168 q168
                      obtain rfl : ad165 = ad168 := (by injection e168)
                      replace hx168_0 := (HB.out.cell (World.block_lt_of_cell? w _ hx168_0)).trans hx168_0
                      replace hx168_1 := (HB.out.cell (World.block_lt_of_cell? w _ hx168_1)).trans hx168_1
                      replace p168 := eq_true p168
                      replace q168 := eq_true q168
                      have p169 : 0 ≤ (x6_1 : Int) := of_decide_eq_true (by first | (with_reducible assumption) | assumption)
                      have q169 : x6_1 < (l0.length : Int) := of_decide_eq_true (by first | (with_reducible assumption) | assumption)
                      obtain ⟨ad169, e169, hx169_0, hx169_1⟩ := at_T78 HR0.out x6_1 p169 q169
                      obtain rfl : ad165 = ad169 := (by injection e169)
                      have hn169_0 : ad165.block ≠ gb153 := Nat.ne_of_lt (Nat.lt_of_lt_of_le (by have := World.block_lt_of_cell? _ _ hx169_0; first | rwa [add_block] at this | exact this) GW153.out)
                      replace hx169_0 := (HB.out.cell (World.block_lt_of_cell? w _ hx169_0)).trans hx169_0
                      replace hx169_1 := (HB.out.cell (World.block_lt_of_cell? w _ hx169_1)).trans hx169_1
                      replace hx169_0 := (cell_far (p := ⟨gb153, 1, none⟩) (by first | (rw [add_block]; exact hn169_0) | (show (Addr.add _ _).block ≠ _; rw [add_block]; exact hn169_0) | exact hn169_0) (.string ((rd_T78 l0 x6_1).f1))).trans hx169_0
                      replace hx169_1 := (cell_far (p := ⟨gb153, 1, none⟩) (by first | (rw [add_block]; exact hn169_0) | (show (Addr.add _ _).block ≠ _; rw [add_block]; exact hn169_0) | exact hn169_0) (.string ((rd_T78 l0 x6_1).f1))).trans hx169_1
                      clear hn169_0
                      replace p169 := eq_true p169
                      replace q169 := eq_true q169
                      go_wp2
                      go_roundg k1
                      case measure => have := HK1.out; omega
                      case rel => exact ⟨(wrap64 (x6_1 + 1)), (x152000_1), (x152001_1), (x152002_1), (x152003_1), (x154000_1), ((rd_T78 l0 x6_1).f1), (x154002_1), (x154003_1), (by first | rfl | (simp; done) | (simp [*]; done)), H', ⟨by have := HK1.out; omega⟩, ⟨by (with_reducible repeat (first | refine blk_drewN ?_ _ | refine blk_drew ?_ | refine blk_alloc ?_ _)); refine blk_far ?_ NB151_153.out _; (with_reducible repeat (first | refine blk_drewN ?_ _ | refine blk_drew ?_ | refine blk_alloc ?_ _)); exact BK151.out⟩, ⟨by (with_reducible repeat (first | refine blk_drewN ?_ _ | refine blk_drew ?_ | refine blk_alloc ?_ _)); refine blk_put (cs := #[.string x154000_1, .string x154001_1, .string x154002_1, .string x154003_1, .slice none 0 0]) ?_ 1 _ rfl; (with_reducible repeat (first | refine blk_drewN ?_ _ | refine blk_drew ?_ | refine blk_alloc ?_ _)); exact BK153.out⟩, ⟨by repeat (first | (with_reducible first | exact HB.out | apply below_alloc | apply pw_below_drewN | apply below_drew1 | refine below_set ?_ GE151.out | refine below_set ?_ GE153.out) | exact HB.out)⟩⟩
                  · rw [if_neg c25] at H
                    have c25b0 : (x154001_1.toList == ([] : List UInt8)) = false := beq_eq_false_iff_ne.mpr c25
                    have c25b1 : (x154001_1.toList != ([] : List UInt8)) = true := bne_iff_ne.mpr c25
                    simp only [Option.some.injEq, Prod.mk.injEq] at H
                    obtain ⟨rfl, rfl, rfl, rfl, rfl, rfl⟩ := H
                    have p165 : 0 ≤ (x6_1 : Int) := of_decide_eq_true (by first | (with_reducible assumption) | assumption)
                    have q165 : x6_1 < (l0.length : Int) := of_decide_eq_true (by first | (with_reducible assumption) | assumption)
                    obtain ⟨ad165, e165, hx165_0, hx165_1⟩ := at_T78 HR0.out x6_1 p165 q165
                    cases e165
                    replace hx165_0 := (HB.out.cell (World.block_lt_of_cell? w _ hx165_0)).trans hx165_0
                    replace hx165_1 := (HB.out.cell (World.block_lt_of_cell? w _ hx165_1)).trans hx165_1
                    replace p165 := eq_true p165
                    replace q165 := eq_true q165
                    have hnb32 := NB153_151.out
                    have hnc32 := NB151_153.out
                    have hcz33_0 : wr.cell? ⟨gb153, 0, none⟩ = some (.string x154000_1) := (blk_cell BK153.out 0).trans rfl
                    have hcz33_1 : wr.cell? ⟨gb153, 1, none⟩ = some (.string x154001_1) := (blk_cell BK153.out 1).trans rfl
                    have hcz33_2 : wr.cell? ⟨gb153, 2, none⟩ = some (.string x154002_1) := (blk_cell BK153.out 2).trans rfl
                    have hcz33_3 : wr.cell? ⟨gb153, 3, none⟩ = some (.string x154003_1) := (blk_cell BK153.out 3).trans rfl
                    have hcz33_4 : wr.cell? ⟨gb153, 4, none⟩ = some (.slice none 0 0) := (blk_cell BK153.out 4).trans rfl
                    have hfz33_0 := blk_frozen BK153.out 0
                    have hfz33_1 := blk_frozen BK153.out 1
                    have hfz33_2 := blk_frozen BK153.out 2
                    have hfz33_3 := blk_frozen BK153.out 3
                    have hfz33_4 := blk_frozen BK153.out 4
                    have p168 : 0 ≤ (x6_1 : Int) := of_decide_eq_true (by first | (with_reducible assumption) | assumption)
                    have q168 : x6_1 < (l0.length : Int) := of_decide_eq_true (by first | (with_reducible assumption) | assumption)
                    obtain ⟨ad168, e168, hx168_0, hx168_1⟩ := at_T78 HR0.out x6_1 p168 q168
                    obtain rfl : ad165 = ad168 := (by injection e168)
                    replace hx168_0 := (HB.out.cell (World.block_lt_of_cell? w _ hx168_0)).trans hx168_0
                    replace hx168_1 := (HB.out.cell (World.block_lt_of_cell? w _ hx168_1)).trans hx168_1
                    replace p168 := eq_true p168
                    replace q168 := eq_true q168
                    have hcz34_0 : wr.cell? ⟨gb151, 0, none⟩ = some (.string x152000_1) := (blk_cell BK151.out 0).trans rfl
                    have hcz34_1 : wr.cell? ⟨gb151, 1, none⟩ = some (.string x152001_1) := (blk_cell BK151.out 1).trans rfl
                    have hcz34_2 : wr.cell? ⟨gb151, 2, none⟩ = some (.string x152002_1) := (blk_cell BK151.out 2).trans rfl
                    have hcz34_3 : wr.cell? ⟨gb151, 3, none⟩ = some (.string x152003_1) := (blk_cell BK151.out 3).trans rfl
                    have hcz34_4 : wr.cell? ⟨gb151, 4, none⟩ = some (.slice none 0 0) := (blk_cell BK151.out 4).trans rfl
                    have hfz34_0 := blk_frozen BK151.out 0
                    have hfz34_1 := blk_frozen BK151.out 1
                    have hfz34_2 := blk_frozen BK151.out 2
                    have hfz34_3 := blk_frozen BK151.out 3
                    have hfz34_4 := blk_frozen BK151.out 4
                    go_wp2
                    refine bodyPost_ret (results_ct rfl _ _ gb151 44 #[.string (⟨#[]⟩ : ByteArray), .string (⟨#[]⟩ : ByteArray), .string (⟨#[]⟩ : ByteArray), .string (⟨#[]⟩ : ByteArray), .slice none 0 0] (0, 0) _ rfl (by (with_reducible repeat (first | refine blk_drewN ?_ _ | refine blk_drew ?_ | refine blk_alloc ?_ _)); refine blk_put (cs := #[.string (⟨#[]⟩ : ByteArray), .string (⟨#[]⟩ : ByteArray), .string (⟨#[]⟩ : ByteArray), .string (⟨#[]⟩ : ByteArray), .slice none 0 0]) ?_ 4 _ rfl; (with_reducible repeat (first | refine blk_drewN ?_ _ | refine blk_drew ?_ | refine blk_alloc ?_ _)); refine blk_put (cs := #[.string (⟨#[]⟩ : ByteArray), .string (⟨#[]⟩ : ByteArray), .string (⟨#[]⟩ : ByteArray), .string x152003_1, .slice none 0 0]) ?_ 3 _ rfl; (with_reducible repeat (first | refine blk_drewN ?_ _ | refine blk_drew ?_ | refine blk_alloc ?_ _)); refine blk_put (cs := #[.string (⟨#[]⟩ : ByteArray), .string (⟨#[]⟩ : ByteArray), .string x152002_1, .string x152003_1, .slice none 0 0]) ?_ 2 _ rfl; (with_reducible repeat (first | refine blk_drewN ?_ _ | refine blk_drew ?_ | refine blk_alloc ?_ _)); refine blk_put (cs := #[.string (⟨#[]⟩ : ByteArray), .string x152001_1, .string x152002_1, .string x152003_1, .slice none 0 0]) ?_ 1 _ rfl; (with_reducible repeat (first | refine blk_drewN ?_ _ | refine blk_drew ?_ | refine blk_alloc ?_ _)); refine blk_put (cs := #[.string x152000_1, .string x152001_1, .string x152002_1, .string x152003_1, .slice none 0 0]) ?_ 0 _ rfl; (with_reducible repeat (first | refine blk_drewN ?_ _ | refine blk_drew ?_ | refine blk_alloc ?_ _)); refine blk_far ?_ NB151_153.out _; (with_reducible repeat (first | refine blk_drewN ?_ _ | refine blk_drew ?_ | refine blk_alloc ?_ _)); exact BK151.out) Tryd.underlying44 rfl (by kernel_rfl)) rfl ?_
                    exact ⟨_, by first | rfl | (simp [errW_none, errW_some] <;> rfl) | (simp [*, errW_none, errW_some] <;> rfl), by first | exact Kd.R_nil _ _ _ _ _ | exact Kd.N_nil _ _ _ _ _ | exact Kd.V_nil _ _ _ _ _ | exact Kd.Q_nil _ _ _ _ _ | exact Kd.S_nil _ _ _ _ _, by repeat (first | (with_reducible first | exact HB.out | apply below_alloc | apply pw_below_drewN | apply below_drew1 | refine below_set ?_ GE151.out | refine below_set ?_ GE153.out) | exact HB.out)⟩
                · rw [if_neg c24] at H
                  have c24b0 : (((rd_T78 l0 x6_1).f0).toList == ([58, 115, 99, 104, 101, 109, 101] : List UInt8)) = false := beq_eq_false_iff_ne.mpr c24
                  have c24b1 : (((rd_T78 l0 x6_1).f0).toList != ([58, 115, 99, 104, 101, 109, 101] : List UInt8)) = true := bne_iff_ne.mpr c24
                  by_cases c35 : ((rd_T78 l0 x6_1).f0).toList = ([58, 112, 97, 116, 104] : List UInt8)
                  · rw [if_pos c35] at H
                    have c35b0 : (((rd_T78 l0 x6_1).f0).toList == ([58, 112, 97, 116, 104] : List UInt8)) = true := beq_iff_eq.mpr c35
                    have c35b1 : (((rd_T78 l0 x6_1).f0).toList != ([58, 112, 97, 116, 104] : List UInt8)) = false := bne_eq_false_iff_eq.mpr c35
                    clear c35
                    by_cases c36 : x154003_1.toList = ([] : List UInt8)
                    · rw [if_pos c36] at H
                      have c36b0 : (x154003_1.toList == ([] : List UInt8)) = true := beq_iff_eq.mpr c36
                      have c36b1 : (x154003_1.toList != ([] : List UInt8)) = false := bne_eq_false_iff_eq.mpr c36
                      clear c36
                      by_cases c37 : ((rd_T78 l0 x6_1).f1).toList = ([] : List UInt8)
                      · rw [if_pos c37] at H
                        have c37b0 : (((rd_T78 l0 x6_1).f1).toList == ([] : List UInt8)) = true := beq_iff_eq.mpr c37
                        have c37b1 : (((rd_T78 l0 x6_1).f1).toList != ([] : List UInt8)) = false := bne_eq_false_iff_eq.mpr c37
                        clear c37
                        simp only [Option.some.injEq, Prod.mk.injEq] at H
                        obtain ⟨rfl, rfl, rfl, rfl, rfl, rfl⟩ := H
                        have p165 : 0 ≤ (x6_1 : Int) := of_decide_eq_true (by first | (with_reducible assumption) | assumption)
                        have q165 : x6_1 < (l0.length : Int) := of_decide_eq_true (by first | (with_reducible assumption) | assumption)
                        obtain ⟨ad165, e165, hx165_0, hx165_1⟩ := at_T78 HR0.out x6_1 p165 q165
                        cases e165
                        replace hx165_0 := (HB.out.cell (World.block_lt_of_cell? w _ hx165_0)).trans hx165_0
                        replace hx165_1 := (HB.out.cell (World.block_lt_of_cell? w _ hx165_1)).trans hx165_1
                        replace p165 := eq_true p165
                        replace q165 := eq_true q165
                        have hnb38 := NB153_151.out
                        have hnc38 := NB151_153.out
                        have hcz39_0 : wr.cell? ⟨gb153, 0, none⟩ = some (.string x154000_1) := (blk_cell BK153.out 0).trans rfl
                        have hcz39_1 : wr.cell? ⟨gb153, 1, none⟩ = some (.string x154001_1) := (blk_cell BK153.out 1).trans rfl
                        have hcz39_2 : wr.cell? ⟨gb153, 2, none⟩ = some (.string x154002_1) := (blk_cell BK153.out 2).trans rfl
                        have hcz39_3 : wr.cell? ⟨gb153, 3, none⟩ = some (.string x154003_1) := (blk_cell BK153.out 3).trans rfl
                        have hcz39_4 : wr.cell? ⟨gb153, 4, none⟩ = some (.slice none 0 0) := (blk_cell BK153.out 4).trans rfl
                        have hfz39_0 := blk_frozen BK153.out 0
                        have hfz39_1 := blk_frozen BK153.out 1
                        have hfz39_2 := blk_frozen BK153.out 2
                        have hfz39_3 := blk_frozen BK153.out 3
                        have hfz39_4 := blk_frozen BK153.out 4
                        have p170 : 0 ≤ (x6_1 : Int) := of_decide_eq_true (by first | (with_reducible assumption) | assumption)
                        have q170 : x6_1 < (l0.length : Int) := of_decide_eq_true (by first | (with_reducible assumption) | assumption)
                        obtain ⟨ad170, e170, hx170_0, hx170_1⟩ := at_T78 HR0.out x6_1 p170 q170
                        obtain rfl : ad165 = ad170 := (by injection e170)
                        replace hx170_0 := (HB.out.cell (World.block_lt_of_cell? w _ hx170_0)).trans hx170_0
                        replace hx170_1 := (HB.out.cell (World.block_lt_of_cell? w _ hx170_1)).trans hx170_1
                        replace p170 := eq_true p170
                        replace q170 := eq_true q170
                        have p171 : 0 ≤ (x6_1 : Int) := of_decide_eq_true (by first | (with_reducible assumption) | assumption)
                        have q171 : x6_1 < (l0.length : Int) := of_decide_eq_true (by first | (with_reducible assumption) | assumption)
                        obtain ⟨ad171, e171, hx171_0, hx171_1⟩ := at_T78 HR0.out x6_1 p171 q171
                        obtain rfl : ad165 = ad171 := (by injection e171)
                        have hn171_0 : ad165.block ≠ gb153 := Nat.ne_of_lt (Nat.lt_of_lt_of_le (by have := World.block_lt_of_cell? _ _ hx171_0; first | rwa [add_block] at this | exact this) GW153.out)
                        replace hx171_0 := (HB.out.cell (World.block_lt_of_cell? w _ hx171_0)).trans hx171_0
                        replace hx171_1 := (HB.out.cell (World.block_lt_of_cell? w _ hx171_1)).trans hx171_1
                        replace hx171_0 := (cell_far (p := ⟨gb153, 3, none⟩) (by first | (rw [add_block]; exact hn171_0) | (show (Addr.add _ _).block ≠ _; rw [add_block]; exact hn171_0) | exact hn171_0) (.string ((rd_T78 l0 x6_1).f1))).trans hx171_0
                        replace hx171_1 := (cell_far (p := ⟨gb153, 3, none⟩) (by first | (rw [add_block]; exact hn171_0) | (show (Addr.add _ _).block ≠ _; rw [add_block]; exact hn171_0) | exact hn171_0) (.string ((rd_T78 l0 x6_1).f1))).trans hx171_1
                        clear hn171_0
                        replace p171 := eq_true p171
                        replace q171 := eq_true q171
                        have hcz40_0 : wr.cell? ⟨gb151, 0, none⟩ = some (.string x152000_1) := (blk_cell BK151.out 0).trans rfl
                        have hcz40_1 : wr.cell? ⟨gb151, 1, none⟩ = some (.string x152001_1) := (blk_cell BK151.out 1).trans rfl
                        have hcz40_2 : wr.cell? ⟨gb151, 2, none⟩ = some (.string x152002_1) := (blk_cell BK151.out 2).trans rfl
                        have hcz40_3 : wr.cell? ⟨gb151, 3, none⟩ = some (.string x152003_1) := (blk_cell BK151.out 3).trans rfl
                        have hcz40_4 : wr.cell? ⟨gb151, 4, none⟩ = some (.slice none 0 0) := (blk_cell BK151.out 4).trans rfl
                        have hfz40_0 := blk_frozen BK151.out 0
                        have hfz40_1 := blk_frozen BK151.out 1
                        have hfz40_2 := blk_frozen BK151.out 2
                        have hfz40_3 := blk_frozen BK151.out 3
                        have hfz40_4 := blk_frozen BK151.out 4
                        go_wp2
                        refine bodyPost_ret (results_ct rfl _ _ gb151 44 #[.string (⟨#[]⟩ : ByteArray), .string (⟨#[]⟩ : ByteArray), .string (⟨#[]⟩ : ByteArray), .string (⟨#[]⟩ : ByteArray), .slice none 0 0] (0, 0) _ rfl (by (with_reducible repeat (first | refine blk_drewN ?_ _ | refine blk_drew ?_ | refine blk_alloc ?_ _)); refine blk_put (cs := #[.string (⟨#[]⟩ : ByteArray), .string (⟨#[]⟩ : ByteArray), .string (⟨#[]⟩ : ByteArray), .string (⟨#[]⟩ : ByteArray), .slice none 0 0]) ?_ 4 _ rfl; (with_reducible repeat (first | refine blk_drewN ?_ _ | refine blk_drew ?_ | refine blk_alloc ?_ _)); refine blk_put (cs := #[.string (⟨#[]⟩ : ByteArray), .string (⟨#[]⟩ : ByteArray), .string (⟨#[]⟩ : ByteArray), .string x152003_1, .slice none 0 0]) ?_ 3 _ rfl; (with_reducible repeat (first | refine blk_drewN ?_ _ | refine blk_drew ?_ | refine blk_alloc ?_ _)); refine blk_put (cs := #[.string (⟨#[]⟩ : ByteArray), .string (⟨#[]⟩ : ByteArray), .string x152002_1, .string x152003_1, .slice none 0 0]) ?_ 2 _ rfl; (with_reducible repeat (first | refine blk_drewN ?_ _ | refine blk_drew ?_ | refine blk_alloc ?_ _)); refine blk_put (cs := #[.string (⟨#[]⟩ : ByteArray), .string x152001_1, .string x152002_1, .string x152003_1, .slice none 0 0]) ?_ 1 _ rfl; (with_reducible repeat (first | refine blk_drewN ?_ _ | refine blk_drew ?_ | refine blk_alloc ?_ _)); refine blk_put (cs := #[.string x152000_1, .string x152001_1, .string x152002_1, .string x152003_1, .slice none 0 0]) ?_ 0 _ rfl; (with_reducible repeat (first | refine blk_drewN ?_ _ | refine blk_drew ?_ | refine blk_alloc ?_ _)); refine blk_far ?_ NB151_153.out _; (with_reducible repeat (first | refine blk_drewN ?_ _ | refine blk_drew ?_ | refine blk_alloc ?_ _)); exact BK151.out) Tryd.underlying44 rfl (by kernel_rfl)) rfl ?_
                        exact ⟨_, by first | rfl | (simp [errW_none, errW_some] <;> rfl) | (simp [*, errW_none, errW_some] <;> rfl), by first | exact Kd.R_nil _ _ _ _ _ | exact Kd.N_nil _ _ _ _ _ | exact Kd.V_nil _ _ _ _ _ | exact Kd.Q_nil _ _ _ _ _ | exact Kd.S_nil _ _ _ _ _, by repeat (first | (with_reducible first | exact HB.out | apply below_alloc | apply pw_below_drewN | apply below_drew1 | refine below_set ?_ GE151.out | refine below_set ?_ GE153.out) | exact HB.out)⟩
                      · rw [if_neg c37] at H
                        have c37b0 : (((rd_T78 l0 x6_1).f1).toList == ([] : List UInt8)) = false := beq_eq_false_iff_ne.mpr c37
                        have c37b1 : (((rd_T78 l0 x6_1).f1).toList != ([] : List UInt8)) = true := bne_iff_ne.mpr c37
                        have H' := Aside0.mk H
                        clear H
                        have p165 : 0 ≤ (x6_1 : Int) := of_decide_eq_true (by first | (with_reducible assumption) | assumption)
                        have q165 : x6_1 < (l0.length : Int) := of_decide_eq_true (by first | (with_reducible assumption) | assumption)
                        obtain ⟨ad165, e165, hx165_0, hx165_1⟩ := at_T78 HR0.out x6_1 p165 q165
                        cases e165
                        replace hx165_0 := (HB.out.cell (World.block_lt_of_cell? w _ hx165_0)).trans hx165_0
                        replace hx165_1 := (HB.out.cell (World.block_lt_of_cell? w _ hx165_1)).trans hx165_1
                        replace p165 := eq_true p165
                        replace q165 := eq_true q165
                        have hnb41 := NB153_151.out
                        have hnc41 := NB151_153.out
                        have hcz42_0 : wr.cell? ⟨gb153, 0, none⟩ = some (.string x154000_1) := (blk_cell BK153.out 0).trans rfl
                        have hcz42_1 : wr.cell? ⟨gb153, 1, none⟩ = some (.string x154001_1) := (blk_cell BK153.out 1).trans rfl
                        have hcz42_2 : wr.cell? ⟨gb153, 2, none⟩ = some (.string x154002_1) := (blk_cell BK153.out 2).trans rfl
                        have hcz42_3 : wr.cell? ⟨gb153, 3, none⟩ = some (.string x154003_1) := (blk_cell BK153.out 3).trans rfl
                        have hcz42_4 : wr.cell? ⟨gb153, 4, none⟩ = some (.slice none 0 0) := (blk_cell BK153.out 4).trans rfl
                        have hfz42_0 := blk_frozen BK153.out 0
                        have hfz42_1 := blk_frozen BK153.out 1
                        have hfz42_2 := blk_frozen BK153.out 2
                        have hfz42_3 := blk_frozen BK153.out 3
                        have hfz42_4 := blk_frozen BK153.out 4
                        have p170 : 0 ≤ (x6_1 : Int) := of_decide_eq_true (by first | (with_reducible assumption) | assumption)
                        have q170 : x6_1 < (l0.length : Int) := of_decide_eq_true (by first | (with_reducible assumption) | assumption)
                        obtain ⟨ad170, e170, hx170_0, hx170_1⟩ := at_T78 HR0.out x6_1 p170 q170
                        obtain rfl : ad165 = ad170 := (by injection e170)
                        replace hx170_0 := (HB.out.cell (World.block_lt_of_cell? w _ hx170_0)).trans hx170_0
                        replace hx170_1 := (HB.out.cell (World.block_lt_of_cell? w _ hx170_1)).trans hx170_1
                        replace p170 := eq_true p170
                        replace q170 := eq_true q170
                        have p171 : 0 ≤ (x6_1 : Int) := of_decide_eq_true (by first | (with_reducible assumption) | assumption)
                        have q171 : x6_1 < (l0.length : Int) := of_decide_eq_true (by first | (with_reducible assumption) | assumption)
                        obtain ⟨ad171, e171, hx171_0, hx171_1⟩ := at_T78 HR0.out x6_1 p171 q171
                        obtain rfl : ad165 = ad171 := (by injection e171)
                        have hn171_0 : ad165.block ≠ gb153 := Nat.ne_of_lt (Nat.lt_of_lt_of_le (by have := World.block_lt_of_cell? _ _ hx171_0; first | rwa [add_block] at this | exact this) GW153.out)
                        replace hx171_0 := (HB.out.cell (World.block_lt_of_cell? w _ hx171_0)).trans hx171_0
                        replace hx171_1 := (HB.out.cell (World.block_lt_of_cell? w _ hx171_1)).trans hx171_1
                        replace hx171_0 := (cell_far (p := ⟨gb153, 3, none⟩) (by first | (rw [add_block]; exact hn171_0) | (show (Addr.add _ _).block ≠ _; rw [add_block]; exact hn171_0) | exact hn171_0) (.string ((rd_T78 l0 x6_1).f1))).trans hx171_0
                        replace hx171_1 := (cell_far (p := ⟨gb153, 3, none⟩) (by first | (rw [add_block]; exact hn171_0) | (show (Addr.add _ _).block ≠ _; rw [add_block]; exact hn171_0) | exact hn171_0) (.string ((rd_T78 l0 x6_1).f1))).trans hx171_1
                        clear hn171_0
                        replace p171 := eq_true p171
                        replace q171 := eq_true q171
                        go_wp2
                        go_roundg k1
                        case measure => have := HK1.out; omega
                        case rel => exact ⟨(wrap64 (x6_1 + 1)), (x152000_1), (x152001_1), (x152002_1), (x152003_1), (x154000_1), (x154001_1), (x154002_1), ((rd_T78 l0 x6_1).f1), (by first | rfl | (simp; done) | (simp [*]; done)), H', ⟨by have := HK1.out; omega⟩, ⟨by (with_reducible repeat (first | refine blk_drewN ?_ _ | refine blk_drew ?_ | refine blk_alloc ?_ _)); refine blk_far ?_ NB151_153.out _; (with_reducible repeat (first | refine blk_drewN ?_ _ | refine blk_drew ?_ | refine blk_alloc ?_ _)); exact BK151.out⟩, ⟨by (with_reducible repeat (first | refine blk_drewN ?_ _ | refine blk_drew ?_ | refine blk_alloc ?_ _)); refine blk_put (cs := #[.string x154000_1, .string x154001_1, .string x154002_1, .string x154003_1, .slice none 0 0]) ?_ 3 _ rfl; (with_reducible repeat (first | refine blk_drewN ?_ _ | refine blk_drew ?_ | refine blk_alloc ?_ _)); exact BK153.out⟩, ⟨by repeat (first | (with_reducible first | exact HB.out | apply below_alloc | apply pw_below_drewN | apply below_drew1 | refine below_set ?_ GE151.out | refine below_set ?_ GE153.out) | exact HB.out)⟩⟩
                    · rw [if_neg c36] at H
                      have c36b0 : (x154003_1.toList == ([] : List UInt8)) = false := beq_eq_false_iff_ne.mpr c36
                      have c36b1 : (x154003_1.toList != ([] : List UInt8)) = true := bne_iff_ne.mpr c36
                      simp only [Option.some.injEq, Prod.mk.injEq] at H
                      obtain ⟨rfl, rfl, rfl, rfl, rfl, rfl⟩ := H
                      have p165 : 0 ≤ (x6_1 : Int) := of_decide_eq_true (by first | (with_reducible assumption) | assumption)
                      have q165 : x6_1 < (l0.length : Int) := of_decide_eq_true (by first | (with_reducible assumption) | assumption)
                      obtain ⟨ad165, e165, hx165_0, hx165_1⟩ := at_T78 HR0.out x6_1 p165 q165
                      cases e165
                      replace hx165_0 := (HB.out.cell (World.block_lt_of_cell? w _ hx165_0)).trans hx165_0
                      replace hx165_1 := (HB.out.cell (World.block_lt_of_cell? w _ hx165_1)).trans hx165_1
                      replace p165 := eq_true p165
                      replace q165 := eq_true q165
                      have hnb43 := NB153_151.out
                      have hnc43 := NB151_153.out
                      have hcz44_0 : wr.cell? ⟨gb153, 0, none⟩ = some (.string x154000_1) := (blk_cell BK153.out 0).trans rfl
                      have hcz44_1 : wr.cell? ⟨gb153, 1, none⟩ = some (.string x154001_1) := (blk_cell BK153.out 1).trans rfl
                      have hcz44_2 : wr.cell? ⟨gb153, 2, none⟩ = some (.string x154002_1) := (blk_cell BK153.out 2).trans rfl
                      have hcz44_3 : wr.cell? ⟨gb153, 3, none⟩ = some (.string x154003_1) := (blk_cell BK153.out 3).trans rfl
                      have hcz44_4 : wr.cell? ⟨gb153, 4, none⟩ = some (.slice none 0 0) := (blk_cell BK153.out 4).trans rfl
                      have hfz44_0 := blk_frozen BK153.out 0
                      have hfz44_1 := blk_frozen BK153.out 1
                      have hfz44_2 := blk_frozen BK153.out 2
                      have hfz44_3 := blk_frozen BK153.out 3
                      have hfz44_4 := blk_frozen BK153.out 4
                      have p170 : 0 ≤ (x6_1 : Int) := of_decide_eq_true (by first | (with_reducible assumption) | assumption)
                      have q170 : x6_1 < (l0.length : Int) := of_decide_eq_true (by first | (with_reducible assumption) | assumption)
                      obtain ⟨ad170, e170, hx170_0, hx170_1⟩ := at_T78 HR0.out x6_1 p170 q170
                      obtain rfl : ad165 = ad170 := (by injection e170)
                      replace hx170_0 := (HB.out.cell (World.block_lt_of_cell? w _ hx170_0)).trans hx170_0
                      replace hx170_1 := (HB.out.cell (World.block_lt_of_cell? w _ hx170_1)).trans hx170_1
                      replace p170 := eq_true p170
                      replace q170 := eq_true q170
                      have hcz45_0 : wr.cell? ⟨gb151, 0, none⟩ = some (.string x152000_1) := (blk_cell BK151.out 0).trans rfl
                      have hcz45_1 : wr.cell? ⟨gb151, 1, none⟩ = some (.string x152001_1) := (blk_cell BK151.out 1).trans rfl
                      have hcz45_2 : wr.cell? ⟨gb151, 2, none⟩ = some (.string x152002_1) := (blk_cell BK151.out 2).trans rfl
                      have hcz45_3 : wr.cell? ⟨gb151, 3, none⟩ = some (.string x152003_1) := (blk_cell BK151.out 3).trans rfl
                      have hcz45_4 : wr.cell? ⟨gb151, 4, none⟩ = some (.slice none 0 0) := (blk_cell BK151.out 4).trans rfl
                      have hfz45_0 := blk_frozen BK151.out 0
                      have hfz45_1 := blk_frozen BK151.out 1
                      have hfz45_2 := blk_frozen BK151.out 2
                      have hfz45_3 := blk_frozen BK151.out 3
                      have hfz45_4 := blk_frozen BK151.out 4
                      go_wp2
                      refine bodyPost_ret (results_ct rfl _ _ gb151 44 #[.string (⟨#[]⟩ : ByteArray), .string (⟨#[]⟩ : ByteArray), .string (⟨#[]⟩ : ByteArray), .string (⟨#[]⟩ : ByteArray), .slice none 0 0] (0, 0) _ rfl (by (with_reducible repeat (first | refine blk_drewN ?_ _ | refine blk_drew ?_ | refine blk_alloc ?_ _)); refine blk_put (cs := #[.string (⟨#[]⟩ : ByteArray), .string (⟨#[]⟩ : ByteArray), .string (⟨#[]⟩ : ByteArray), .string (⟨#[]⟩ : ByteArray), .slice none 0 0]) ?_ 4 _ rfl; (with_reducible repeat (first | refine blk_drewN ?_ _ | refine blk_drew ?_ | refine blk_alloc ?_ _)); refine blk_put (cs := #[.string (⟨#[]⟩ : ByteArray), .string (⟨#[]⟩ : ByteArray), .string (⟨#[]⟩ : ByteArray), .string x152003_1, .slice none 0 0]) ?_ 3 _ rfl; (with_reducible repeat (first | refine blk_drewN ?_ _ | refine blk_drew ?_ | refine blk_alloc ?_ _)); refine blk_put (cs := #[.string (⟨#[]⟩ : ByteArray), .string (⟨#[]⟩ : ByteArray), .string x152002_1, .string x152003_1, .slice none 0 0]) ?_ 2 _ rfl; (with_reducible repeat (first | refine blk_drewN ?_ _ | refine blk_drew ?_ | refine blk_alloc ?_ _)); refine blk_put (cs := #[.string (⟨#[]⟩ : ByteArray), .string x152001_1, .string x152002_1, .string x152003_1, .slice none 0 0]) ?_ 1 _ rfl; (with_reducible repeat (first | refine blk_drewN ?_ _ | refine blk_drew ?_ | refine blk_alloc ?_ _)); refine blk_put (cs := #[.string x152000_1, .string x152001_1, .string x152002_1, .string x152003_1, .slice none 0 0]) ?_ 0 _ rfl; (with_reducible repeat (first | refine blk_drewN ?_ _ | refine blk_drew ?_ | refine blk_alloc ?_ _)); refine blk_far ?_ NB151_153.out _; (with_reducible repeat (first | refine blk_drewN ?_ _ | refine blk_drew ?_ | refine blk_alloc ?_ _)); exact BK151.out) Tryd.underlying44 rfl (by kernel_rfl)) rfl ?_
                      exact ⟨_, by first | rfl | (simp [errW_none, errW_some] <;> rfl) | (simp [*, errW_none, errW_some] <;> rfl), by first | exact Kd.R_nil _ _ _ _ _ | exact Kd.N_nil _ _ _ _ _ | exact Kd.V_nil _ _ _ _ _ | exact Kd.Q_nil _ _ _ _ _ | exact Kd.S_nil _ _ _ _ _, by repeat (first | (with_reducible first | exact HB.out | apply below_alloc | apply pw_below_drewN | apply below_drew1 | refine below_set ?_ GE151.out | refine below_set ?_ GE153.out) | exact HB.out)⟩
                  · rw [if_neg c35] at H
                    have c35b0 : (((rd_T78 l0 x6_1).f0).toList == ([58, 112, 97, 116, 104] : List UInt8)) = false := beq_eq_false_iff_ne.mpr c35
                    have c35b1 : (((rd_T78 l0 x6_1).f0).toList != ([58, 112, 97, 116, 104] : List UInt8)) = true := bne_iff_ne.mpr c35
                    by_cases c46 : ((rd_T78 l0 x6_1).f0).toList = ([58, 97, 117, 116, 104, 111, 114, 105, 116, 121] : List UInt8)
                    · rw [if_pos c46] at H
                      have c46b0 : (((rd_T78 l0 x6_1).f0).toList == ([58, 97, 117, 116, 104, 111, 114, 105, 116, 121] : List UInt8)) = true := beq_iff_eq.mpr c46
                      have c46b1 : (((rd_T78 l0 x6_1).f0).toList != ([58, 97, 117, 116, 104, 111, 114, 105, 116, 121] : List UInt8)) = false := bne_eq_false_iff_eq.mpr c46
                      clear c46
                      by_cases c47 : x154002_1.toList = ([] : List UInt8)
                      · rw [if_pos c47] at H
                        have c47b0 : (x154002_1.toList == ([] : List UInt8)) = true := beq_iff_eq.mpr c47
                        have c47b1 : (x154002_1.toList != ([] : List UInt8)) = false := bne_eq_false_iff_eq.mpr c47
                        clear c47
                        by_cases c48 : ((rd_T78 l0 x6_1).f1).toList = ([] : List UInt8)
                        · rw [if_pos c48] at H
                          have c48b0 : (((rd_T78 l0 x6_1).f1).toList == ([] : List UInt8)) = true := beq_iff_eq.mpr c48
                          have c48b1 : (((rd_T78 l0 x6_1).f1).toList != ([] : List UInt8)) = false := bne_eq_false_iff_eq.mpr c48
                          clear c48
                          simp only [Option.some.injEq, Prod.mk.injEq] at H
                          obtain ⟨rfl, rfl, rfl, rfl, rfl, rfl⟩ := H
                          have p165 : 0 ≤ (x6_1 : Int) := of_decide_eq_true (by first | (with_reducible assumption) | assumption)
                          have q165 : x6_1 < (l0.length : Int) := of_decide_eq_true (by first | (with_reducible assumption) | assumption)
                          obtain ⟨ad165, e165, hx165_0, hx165_1⟩ := at_T78 HR0.out x6_1 p165 q165
                          cases e165
                          replace hx165_0 := (HB.out.cell (World.block_lt_of_cell? w _ hx165_0)).trans hx165_0
                          replace hx165_1 := (HB.out.cell (World.block_lt_of_cell? w _ hx165_1)).trans hx165_1
                          replace p165 := eq_true p165
                          replace q165 := eq_true q165
                          have hnb49 := NB153_151.out
                          have hnc49 := NB151_153.out
                          have hcz50_0 : wr.cell? ⟨gb153, 0, none⟩ = some (.string x154000_1) := (blk_cell BK153.out 0).trans rfl
                          have hcz50_1 : wr.cell? ⟨gb153, 1, none⟩ = some (.string x154001_1) := (blk_cell BK153.out 1).trans rfl
                          have hcz50_2 : wr.cell? ⟨gb153, 2, none⟩ = some (.string x154002_1) := (blk_cell BK153.out 2).trans rfl
                          have hcz50_3 : wr.cell? ⟨gb153, 3, none⟩ = some (.string x154003_1) := (blk_cell BK153.out 3).trans rfl
                          have hcz50_4 : wr.cell? ⟨gb153, 4, none⟩ = some (.slice none 0 0) := (blk_cell BK153.out 4).trans rfl
                          have hfz50_0 := blk_frozen BK153.out 0
                          have hfz50_1 := blk_frozen BK153.out 1
                          have hfz50_2 := blk_frozen BK153.out 2
                          have hfz50_3 := blk_frozen BK153.out 3
                          have hfz50_4 := blk_frozen BK153.out 4
                          have p172 : 0 ≤ (x6_1 : Int) := of_decide_eq_true (by first | (with_reducible assumption) | assumption)
                          have q172 : x6_1 < (l0.length : Int) := of_decide_eq_true (by first | (with_reducible assumption) | assumption)
                          obtain ⟨ad172, e172, hx172_0, hx172_1⟩ := at_T78 HR0.out x6_1 p172 q172
                          obtain rfl : ad165 = ad172 := (by injection e172)
                          replace hx172_0 := (HB.out.cell (World.block_lt_of_cell? w _ hx172_0)).trans hx172_0
                          replace hx172_1 := (HB.out.cell (World.block_lt_of_cell? w _ hx172_1)).trans hx172_1
                          replace p172 := eq_true p172
                          replace q172 := eq_true q172
                          have p173 : 0 ≤ (x6_1 : Int) := of_decide_eq_true (by first | (with_reducible assumption) | assumption)
                          have q173 : x6_1 < (l0.length : Int) := of_decide_eq_true (by first | (with_reducible assumption) | assumption)
                          obtain ⟨ad173, e173, hx173_0, hx173_1⟩ := at_T78 HR0.out x6_1 p173 q173
                          obtain rfl : ad165 = ad173 := (by injection e173)
                          have hn173_0 : ad165.block ≠ gb153 := Nat.ne_of_lt (Nat.lt_of_lt_of_le (by have := World.block_lt_of_cell? _ _ hx173_0; first | rwa [add_block] at this | exact this) GW153.out)
                          replace hx173_0 := (HB.out.cell (World.block_lt_of_cell? w _ hx173_0)).trans hx173_0
                          replace hx173_1 := (HB.out.cell (World.block_lt_of_cell? w _ hx173_1)).trans hx173_1
                          replace hx173_0 := (cell_far (p := ⟨gb153, 2, none⟩) (by first | (rw [add_block]; exact hn173_0) | (show (Addr.add _ _).block ≠ _; rw [add_block]; exact hn173_0) | exact hn173_0) (.string ((rd_T78 l0 x6_1).f1))).trans hx173_0
                          replace hx173_1 := (cell_far (p := ⟨gb153, 2, none⟩) (by first | (rw [add_block]; exact hn173_0) | (show (Addr.add _ _).block ≠ _; rw [add_block]; exact hn173_0) | exact hn173_0) (.string ((rd_T78 l0 x6_1).f1))).trans hx173_1
                          clear hn173_0
                          replace p173 := eq_true p173
                          replace q173 := eq_true q173
                          have hcz51_0 : wr.cell? ⟨gb151, 0, none⟩ = some (.string x152000_1) := (blk_cell BK151.out 0).trans rfl
                          have hcz51_1 : wr.cell? ⟨gb151, 1, none⟩ = some (.string x152001_1) := (blk_cell BK151.out 1).trans rfl
                          have hcz51_2 : wr.cell? ⟨gb151, 2, none⟩ = some (.string x152002_1) := (blk_cell BK151.out 2).trans rfl
                          have hcz51_3 : wr.cell? ⟨gb151, 3, none⟩ = some (.string x152003_1) := (blk_cell BK151.out 3).trans rfl
                          have hcz51_4 : wr.cell? ⟨gb151, 4, none⟩ = some (.slice none 0 0) := (blk_cell BK151.out 4).trans rfl
                          have hfz51_0 := blk_frozen BK151.out 0
                          have hfz51_1 := blk_frozen BK151.out 1
                          have hfz51_2 := blk_frozen BK151.out 2
                          have hfz51_3 := blk_frozen BK151.out 3
                          have hfz51_4 := blk_frozen BK151.out 4
                          go_wp2
                          refine bodyPost_ret (results_ct rfl _ _ gb151 44 #[.string (⟨#[]⟩ : ByteArray), .string (⟨#[]⟩ : ByteArray), .string (⟨#[]⟩ : ByteArray), .string (⟨#[]⟩ : ByteArray), .slice none 0 0] (0, 0) _ rfl (by (with_reducible repeat (first | refine blk_drewN ?_ _ | refine blk_drew ?_ | refine blk_alloc ?_ _)); refine blk_put (cs := #[.string (⟨#[]⟩ : ByteArray), .string (⟨#[]⟩ : ByteArray), .string (⟨#[]⟩ : ByteArray), .string (⟨#[]⟩ : ByteArray), .slice none 0 0]) ?_ 4 _ rfl; (with_reducible repeat (first | refine blk_drewN ?_ _ | refine blk_drew ?_ | refine blk_alloc ?_ _)); refine blk_put (cs := #[.string (⟨#[]⟩ : ByteArray), .string (⟨#[]⟩ : ByteArray), .string (⟨#[]⟩ : ByteArray), .string x152003_1, .slice none 0 0]) ?_ 3 _ rfl; (with_reducible repeat (first | refine blk_drewN ?_ _ | refine blk_drew ?_ | refine blk_alloc ?_ _)); refine blk_put (cs := #[.string (⟨#[]⟩ : ByteArray), .string (⟨#[]⟩ : ByteArray), .string x152002_1, .string x152003_1, .slice none 0 0]) ?_ 2 _ rfl; (with_reducible repeat (first | refine blk_drewN ?_ _ | refine blk_drew ?_ | refine blk_alloc ?_ _)); refine blk_put (cs := #[.string (⟨#[]⟩ : ByteArray), .string x152001_1, .string x152002_1, .string x152003_1, .slice none 0 0]) ?_ 1 _ rfl; (with_reducible repeat (first | refine blk_drewN ?_ _ | refine blk_drew ?_ | refine blk_alloc ?_ _)); refine blk_put (cs := #[.string x152000_1, .string x152001_1, .string x152002_1, .string x152003_1, .slice none 0 0]) ?_ 0 _ rfl; (with_reducible repeat (first | refine blk_drewN ?_ _ | refine blk_drew ?_ | refine blk_alloc ?_ _)); refine blk_far ?_ NB151_153.out _; (with_reducible repeat (first | refine blk_drewN ?_ _ | refine blk_drew ?_ | refine blk_alloc ?_ _)); exact BK151.out) Tryd.underlying44 rfl (by kernel_rfl)) rfl ?_
                          exact ⟨_, by first | rfl | (simp [errW_none, errW_some] <;> rfl) | (simp [*, errW_none, errW_some] <;> rfl), by first | exact Kd.R_nil _ _ _ _ _ | exact Kd.N_nil _ _ _ _ _ | exact Kd.V_nil _ _ _ _ _ | exact Kd.Q_nil _ _ _ _ _ | exact Kd.S_nil _ _ _ _ _, by repeat (first | (with_reducible first | exact HB.out | apply below_alloc | apply pw_below_drewN | apply below_drew1 | refine below_set ?_ GE151.out | refine below_set ?_ GE153.out) | exact HB.out)⟩
                        · rw [if_neg c48] at H
                          have c48b0 : (((rd_T78 l0 x6_1).f1).toList == ([] : List UInt8)) = false := beq_eq_false_iff_ne.mpr c48
                          have c48b1 : (((rd_T78 l0 x6_1).f1).toList != ([] : List UInt8)) = true := bne_iff_ne.mpr c48
                          have H' := Aside0.mk H
                          clear H
                          have p165 : 0 ≤ (x6_1 : Int) := of_decide_eq_true (by first | (with_reducible assumption) | assumption)
                          have q165 : x6_1 < (l0.length : Int) := of_decide_eq_true (by first | (with_reducible assumption) | assumption)
                          obtain ⟨ad165, e165, hx165_0, hx165_1⟩ := at_T78 HR0.out x6_1 p165 q165
                          cases e165
                          replace hx165_0 := (HB.out.cell (World.block_lt_of_cell? w _ hx165_0)).trans hx165_0
                          replace hx165_1 := (HB.out.cell (World.block_lt_of_cell? w _ hx165_1)).trans hx165_1
                          replace p165 := eq_true p165
                          replace q165 := eq_true q165
                          have hnb52 := NB153_151.out
                          have hnc52 := NB151_153.out
                          have hcz53_0 : wr.cell? ⟨gb153, 0, none⟩ = some (.string x154000_1) := (blk_cell BK153.out 0).trans rfl
                          have hcz53_1 : wr.cell? ⟨gb153, 1, none⟩ = some (.string x154001_1) := (blk_cell BK153.out 1).trans rfl
                          have hcz53_2 : wr.cell? ⟨gb153, 2, none⟩ = some (.string x154002_1) := (blk_cell BK153.out 2).trans rfl
                          have hcz53_3 : wr.cell? ⟨gb153, 3, none⟩ = some (.string x154003_1) := (blk_cell BK153.out 3).trans rfl
                          have hcz53_4 : wr.cell? ⟨gb153, 4, none⟩ = some (.slice none 0 0) := (blk_cell BK153.out 4).trans rfl
                          have hfz53_0 := blk_frozen BK153.out 0
                          have hfz53_1 := blk_frozen BK153.out 1
                          have hfz53_2 := blk_frozen BK153.out 2
                          have hfz53_3 := blk_frozen BK153.out 3
                          have hfz53_4 := blk_frozen BK153.out 4
                          have p172 : 0 ≤ (x6_1 : Int) := of_decide_eq_true (by first | (with_reducible assumption) | assumption)
                          have q172 : x6_1 < (l0.length : Int) := of_decide_eq_true (by first | (with_reducible assumption) | assumption)
                          obtain ⟨ad172, e172, hx172_0, hx172_1⟩ := at_T78 HR0.out x6_1 p172 q172
                          obtain rfl : ad165 = ad172 := (by injection e172)
                          replace hx172_0 := (HB.out.cell (World.block_lt_of_cell? w _ hx172_0)).trans hx172_0
                          replace hx172_1 := (HB.out.cell (World.block_lt_of_cell? w _ hx172_1)).trans hx172_1
                          replace p172 := eq_true p172
                          replace q172 := eq_true q172
                          have p173 : 0 ≤ (x6_1 : Int) := of_decide_eq_true (by first | (with_reducible assumption) | assumption)
                          have q173 : x6_1 < (l0.length : Int) := of_decide_eq_true (by first | (with_reducible assumption) | assumption)
                          obtain ⟨ad173, e173, hx173_0, hx173_1⟩ := at_T78 HR0.out x6_1 p173 q173
                          obtain rfl : ad165 = ad173 := (by injection e173)
                          have hn173_0 : ad165.block ≠ gb153 := Nat.ne_of_lt (Nat.lt_of_lt_of_le (by have := World.block_lt_of_cell? _ _ hx173_0; first | rwa [add_block] at this | exact this) GW153.out)
                          replace hx173_0 := (HB.out.cell (World.block_lt_of_cell? w _ hx173_0)).trans hx173_0
                          replace hx173_1 := (HB.out.cell (World.block_lt_of_cell? w _ hx173_1)).trans hx173_1
                          replace hx173_0 := (cell_far (p := ⟨gb153, 2, none⟩) (by first | (rw [add_block]; exact hn173_0) | (show (Addr.add _ _).block ≠ _; rw [add_block]; exact hn173_0) | exact hn173_0) (.string ((rd_T78 l0 x6_1).f1))).trans hx173_0
                          replace hx173_1 := (cell_far (p := ⟨gb153, 2, none⟩) (by first | (rw [add_block]; exact hn173_0) | (show (Addr.add _ _).block ≠ _; rw [add_block]; exact hn173_0) | exact hn173_0) (.string ((rd_T78 l0 x6_1).f1))).trans hx173_1
                          clear hn173_0
                          replace p173 := eq_true p173
                          replace q173 := eq_true q173
                          go_wp2
                          go_roundg k1
                          case measure => have := HK1.out; omega
                          case rel => exact ⟨(wrap64 (x6_1 + 1)), (x152000_1), (x152001_1), (x152002_1), (x152003_1), (x154000_1), (x154001_1), ((rd_T78 l0 x6_1).f1), (x154003_1), (by first | rfl | (simp; done) | (simp [*]; done)), H', ⟨by have := HK1.out; omega⟩, ⟨by (with_reducible repeat (first | refine blk_drewN ?_ _ | refine blk_drew ?_ | refine blk_alloc ?_ _)); refine blk_far ?_ NB151_153.out _; (with_reducible repeat (first | refine blk_drewN ?_ _ | refine blk_drew ?_ | refine blk_alloc ?_ _)); exact BK151.out⟩, ⟨by (with_reducible repeat (first | refine blk_drewN ?_ _ | refine blk_drew ?_ | refine blk_alloc ?_ _)); refine blk_put (cs := #[.string x154000_1, .string x154001_1, .string x154002_1, .string x154003_1, .slice none 0 0]) ?_ 2 _ rfl; (with_reducible repeat (first | refine blk_drewN ?_ _ | refine blk_drew ?_ | refine blk_alloc ?_ _)); exact BK153.out⟩, ⟨by repeat (first | (with_reducible first | exact HB.out | apply below_alloc | apply pw_below_drewN | apply below_drew1 | refine below_set ?_ GE151.out | refine below_set ?_ GE153.out) | exact HB.out)⟩⟩
                      · rw [if_neg c47] at H
                        have c47b0 : (x154002_1.toList == ([] : List UInt8)) = false := beq_eq_false_iff_ne.mpr c47
                        have c47b1 : (x154002_1.toList != ([] : List UInt8)) = true := bne_iff_ne.mpr c47
                        simp only [Option.some.injEq, Prod.mk.injEq] at H
                        obtain ⟨rfl, rfl, rfl, rfl, rfl, rfl⟩ := H
                        have p165 : 0 ≤ (x6_1 : Int) := of_decide_eq_true (by first | (with_reducible assumption) | assumption)
                        have q165 : x6_1 < (l0.length : Int) := of_decide_eq_true (by first | (with_reducible assumption) | assumption)
                        obtain ⟨ad165, e165, hx165_0, hx165_1⟩ := at_T78 HR0.out x6_1 p165 q165
                        cases e165
                        replace hx165_0 := (HB.out.cell (World.block_lt_of_cell? w _ hx165_0)).trans hx165_0
                        replace hx165_1 := (HB.out.cell (World.block_lt_of_cell? w _ hx165_1)).trans hx165_1
                        replace p165 := eq_true p165
                        replace q165 := eq_true q165
                        have hnb54 := NB153_151.out
                        have hnc54 := NB151_153.out
                        have hcz55_0 : wr.cell? ⟨gb153, 0, none⟩ = some (.string x154000_1) := (blk_cell BK153.out 0).trans rfl
                        have hcz55_1 : wr.cell? ⟨gb153, 1, none⟩ = some (.string x154001_1) := (blk_cell BK153.out 1).trans rfl
                        have hcz55_2 : wr.cell? ⟨gb153, 2, none⟩ = some (.string x154002_1) := (blk_cell BK153.out 2).trans rfl
                        have hcz55_3 : wr.cell? ⟨gb153, 3, none⟩ = some (.string x154003_1) := (blk_cell BK153.out 3).trans rfl
                        have hcz55_4 : wr.cell? ⟨gb153, 4, none⟩ = some (.slice none 0 0) := (blk_cell BK153.out 4).trans rfl
                        have hfz55_0 := blk_frozen BK153.out 0
                        have hfz55_1 := blk_frozen BK153.out 1
                        have hfz55_2 := blk_frozen BK153.out 2
                        have hfz55_3 := blk_frozen BK153.out 3
                        have hfz55_4 := blk_frozen BK153.out 4
                        have p172 : 0 ≤ (x6_1 : Int) := of_decide_eq_true (by first | (with_reducible assumption) | assumption)
                        have q172 : x6_1 < (l0.length : Int) := of_decide_eq_true (by first | (with_reducible assumption) | assumption)
                        obtain ⟨ad172, e172, hx172_0, hx172_1⟩ := at_T78 HR0.out x6_1 p172 q172
                        obtain rfl : ad165 = ad172 := (by injection e172)
                        replace hx172_0 := (HB.out.cell (World.block_lt_of_cell? w _ hx172_0)).trans hx172_0
                        replace hx172_1 := (HB.out.cell (World.block_lt_of_cell? w _ hx172_1)).trans hx172_1
                        replace p172 := eq_true p172
                        replace q172 := eq_true q172
                        have hcz56_0 : wr.cell? ⟨gb151, 0, none⟩ = some (.string x152000_1) := (blk_cell BK151.out 0).trans rfl
                        have hcz56_1 : wr.cell? ⟨gb151, 1, none⟩ = some (.string x152001_1) := (blk_cell BK151.out 1).trans rfl
                        have hcz56_2 : wr.cell? ⟨gb151, 2, none⟩ = some (.string x152002_1) := (blk_cell BK151.out 2).trans rfl
                        have hcz56_3 : wr.cell? ⟨gb151, 3, none⟩ = some (.string x152003_1) := (blk_cell BK151.out 3).trans rfl
                        have hcz56_4 : wr.cell? ⟨gb151, 4, none⟩ = some (.slice none 0 0) := (blk_cell BK151.out 4).trans rfl
                        have hfz56_0 := blk_frozen BK151.out 0
                        have hfz56_1 := blk_frozen BK151.out 1
                        have hfz56_2 := blk_frozen BK151.out 2
                        have hfz56_3 := blk_frozen BK151.out 3
                        have hfz56_4 := blk_frozen BK151.out 4
                        go_wp2
                        refine bodyPost_ret (results_ct rfl _ _ gb151 44 #[.string (⟨#[]⟩ : ByteArray), .string (⟨#[]⟩ : ByteArray), .string (⟨#[]⟩ : ByteArray), .string (⟨#[]⟩ : ByteArray), .slice none 0 0] (0, 0) _ rfl (by (with_reducible repeat (first | refine blk_drewN ?_ _ | refine blk_drew ?_ | refine blk_alloc ?_ _)); refine blk_put (cs := #[.string (⟨#[]⟩ : ByteArray), .string (⟨#[]⟩ : ByteArray), .string (⟨#[]⟩ : ByteArray), .string (⟨#[]⟩ : ByteArray), .slice none 0 0]) ?_ 4 _ rfl; (with_reducible repeat (first | refine blk_drewN ?_ _ | refine blk_drew ?_ | refine blk_alloc ?_ _)); refine blk_put (cs := #[.string (⟨#[]⟩ : ByteArray), .string (⟨#[]⟩ : ByteArray), .string (⟨#[]⟩ : ByteArray), .string x152003_1, .slice none 0 0]) ?_ 3 _ rfl; (with_reducible repeat (first | refine blk_drewN ?_ _ | refine blk_drew ?_ | refine blk_alloc ?_ _)); refine blk_put (cs := #[.string (⟨#[]⟩ : ByteArray), .string (⟨#[]⟩ : ByteArray), .string x152002_1, .string x152003_1, .slice none 0 0]) ?_ 2 _ rfl; (with_reducible repeat (first | refine blk_drewN ?_ _ | refine blk_drew ?_ | refine blk_alloc ?_ _)); refine blk_put (cs := #[.string (⟨#[]⟩ : ByteArray), .string x152001_1, .string x152002_1, .string x152003_1, .slice none 0 0]) ?_ 1 _ rfl; (with_reducible repeat (first | refine blk_drewN ?_ _ | refine blk_drew ?_ | refine blk_alloc ?_ _)); refine blk_put (cs := #[.string x152000_1, .string x152001_1, .string x152002_1, .string x152003_1, .slice none 0 0]) ?_ 0 _ rfl; (with_reducible repeat (first | refine blk_drewN ?_ _ | refine blk_drew ?_ | refine blk_alloc ?_ _)); refine blk_far ?_ NB151_153.out _; (with_reducible repeat (first | refine blk_drewN ?_ _ | refine blk_drew ?_ | refine blk_alloc ?_ _)); exact BK151.out) Tryd.underlying44 rfl (by kernel_rfl)) rfl ?_
                        exact ⟨_, by first | rfl | (simp [errW_none, errW_some] <;> rfl) | (simp [*, errW_none, errW_some] <;> rfl), by first | exact Kd.R_nil _ _ _ _ _ | exact Kd.N_nil _ _ _ _ _ | exact Kd.V_nil _ _ _ _ _ | exact Kd.Q_nil _ _ _ _ _ | exact Kd.S_nil _ _ _ _ _, by repeat (first | (with_reducible first | exact HB.out | apply below_alloc | apply pw_below_drewN | apply below_drew1 | refine below_set ?_ GE151.out | refine below_set ?_ GE153.out) | exact HB.out)⟩
                    · rw [if_neg c46] at H
                      have c46b0 : (((rd_T78 l0 x6_1).f0).toList == ([58, 97, 117, 116, 104, 111, 114, 105, 116, 121] : List UInt8)) = false := beq_eq_false_iff_ne.mpr c46
                      have c46b1 : (((rd_T78 l0 x6_1).f0).toList != ([58, 97, 117, 116, 104, 111, 114, 105, 116, 121] : List UInt8)) = true := bne_iff_ne.mpr c46
                      simp only [Option.some.injEq, Prod.mk.injEq] at H
                      obtain ⟨rfl, rfl, rfl, rfl, rfl, rfl⟩ := H
                      have p165 : 0 ≤ (x6_1 : Int) := of_decide_eq_true (by first | (with_reducible assumption) | assumption)
                      have q165 : x6_1 < (l0.length : Int) := of_decide_eq_true (by first | (with_reducible assumption) | assumption)
                      obtain ⟨ad165, e165, hx165_0, hx165_1⟩ := at_T78 HR0.out x6_1 p165 q165
                      cases e165
                      replace hx165_0 := (HB.out.cell (World.block_lt_of_cell? w _ hx165_0)).trans hx165_0
                      replace hx165_1 := (HB.out.cell (World.block_lt_of_cell? w _ hx165_1)).trans hx165_1
                      replace p165 := eq_true p165
                      replace q165 := eq_true q165
                      have hnb57 := NB151_153.out
                      have hnc57 := NB153_151.out
                      have hcz58_0 : wr.cell? ⟨gb151, 0, none⟩ = some (.string x152000_1) := (blk_cell BK151.out 0).trans rfl
                      have hcz58_1 : wr.cell? ⟨gb151, 1, none⟩ = some (.string x152001_1) := (blk_cell BK151.out 1).trans rfl
                      have hcz58_2 : wr.cell? ⟨gb151, 2, none⟩ = some (.string x152002_1) := (blk_cell BK151.out 2).trans rfl
                      have hcz58_3 : wr.cell? ⟨gb151, 3, none⟩ = some (.string x152003_1) := (blk_cell BK151.out 3).trans rfl
                      have hcz58_4 : wr.cell? ⟨gb151, 4, none⟩ = some (.slice none 0 0) := (blk_cell BK151.out 4).trans rfl
                      have hfz58_0 := blk_frozen BK151.out 0
                      have hfz58_1 := blk_frozen BK151.out 1
                      have hfz58_2 := blk_frozen BK151.out 2
                      have hfz58_3 := blk_frozen BK151.out 3
                      have hfz58_4 := blk_frozen BK151.out 4
                      go_wp2
                      refine bodyPost_ret (results_ct rfl _ _ gb151 44 #[.string (⟨#[]⟩ : ByteArray), .string (⟨#[]⟩ : ByteArray), .string (⟨#[]⟩ : ByteArray), .string (⟨#[]⟩ : ByteArray), .slice none 0 0] (0, 0) _ rfl (by (with_reducible repeat (first | refine blk_drewN ?_ _ | refine blk_drew ?_ | refine blk_alloc ?_ _)); refine blk_put (cs := #[.string (⟨#[]⟩ : ByteArray), .string (⟨#[]⟩ : ByteArray), .string (⟨#[]⟩ : ByteArray), .string (⟨#[]⟩ : ByteArray), .slice none 0 0]) ?_ 4 _ rfl; (with_reducible repeat (first | refine blk_drewN ?_ _ | refine blk_drew ?_ | refine blk_alloc ?_ _)); refine blk_put (cs := #[.string (⟨#[]⟩ : ByteArray), .string (⟨#[]⟩ : ByteArray), .string (⟨#[]⟩ : ByteArray), .string x152003_1, .slice none 0 0]) ?_ 3 _ rfl; (with_reducible repeat (first | refine blk_drewN ?_ _ | refine blk_drew ?_ | refine blk_alloc ?_ _)); refine blk_put (cs := #[.string (⟨#[]⟩ : ByteArray), .string (⟨#[]⟩ : ByteArray), .string x152002_1, .string x152003_1, .slice none 0 0]) ?_ 2 _ rfl; (with_reducible repeat (first | refine blk_drewN ?_ _ | refine blk_drew ?_ | refine blk_alloc ?_ _)); refine blk_put (cs := #[.string (⟨#[]⟩ : ByteArray), .string x152001_1, .string x152002_1, .string x152003_1, .slice none 0 0]) ?_ 1 _ rfl; (with_reducible repeat (first | refine blk_drewN ?_ _ | refine blk_drew ?_ | refine blk_alloc ?_ _)); refine blk_put (cs := #[.string x152000_1, .string x152001_1, .string x152002_1, .string x152003_1, .slice none 0 0]) ?_ 0 _ rfl; (with_reducible repeat (first | refine blk_drewN ?_ _ | refine blk_drew ?_ | refine blk_alloc ?_ _)); exact BK151.out) Tryd.underlying44 rfl (by kernel_rfl)) rfl ?_
                      exact ⟨_, by first | rfl | (simp [errW_none, errW_some] <;> rfl) | (simp [*, errW_none, errW_some] <;> rfl), by first | exact Kd.R_nil _ _ _ _ _ | exact Kd.N_nil _ _ _ _ _ | exact Kd.V_nil _ _ _ _ _ | exact Kd.Q_nil _ _ _ _ _ | exact Kd.S_nil _ _ _ _ _, by repeat (first | (with_reducible first | exact HB.out | apply below_alloc | apply pw_below_drewN | apply below_drew1 | refine below_set ?_ GE151.out | refine below_set ?_ GE153.out) | exact HB.out)⟩
            · rw [if_neg c12] at H
              exact absurd H (by simp)
          · rw [if_neg c11] at H
            exact absurd H (by simp)
        · rw [if_neg c10] at H
          have c10b0 : decide (x6_1 < t152) = false := decide_eq_false c10
          clear c10
          obtain ⟨y154, hy154⟩ : ∃ y_ : List (S78), y_ = (([] : List (S78))) := ⟨_, rfl⟩
          replace H : (if 0 ≤ t152 then (if t152 ≤ (l0.length : Int) then ((some (l0.drop (t152 : Int).toNat : List (S78))).bind fun y157 => (if y154.length + y157.length < 4398046511104 then ((some (y154 ++ y157 : List (S78))).bind fun y161 => ((spec_l15RequestOK.f k1 x154000_1 x154001_1 x154002_1 x154003_1 y161).bind fun t164 => (if t164 = true then (some (x154000_1, x154001_1, x154002_1, x154003_1, y161, 0)) else (some ((⟨#[]⟩ : ByteArray), (⟨#[]⟩ : ByteArray), (⟨#[]⟩ : ByteArray), (⟨#[]⟩ : ByteArray), ([] : List (S78)), 17))))) else (none))) else (none)) else (none)) = some (r1, r2, r3, r4, r5, r6) := by first | (rw [hy154]; with_reducible exact H) | (have H2_ := (Option.bind_some _ _).symm.trans H; rw [hy154]; with_reducible exact H2_) | (have H2_ := (Option.bind_some _ _).symm.trans H; with_reducible exact H2_) | with_reducible exact H | (rw [hy154]; exact H) | exact H
          have Ny154 := Aside0.mk hy154
          clear hy154
          by_cases c59 : 0 ≤ t152
          · rw [if_pos c59] at H
            have c59b0 := eq_true c59
            have c59b1 : decide (0 ≤ t152) = true := decide_eq_true c59
            clear c59
            by_cases c60 : t152 ≤ (l0.length : Int)
            · rw [if_pos c60] at H
              have c60b0 := eq_true c60
              have c60b1 : decide (t152 ≤ (l0.length : Int)) = true := decide_eq_true c60
              clear c60
              obtain ⟨y157, hy157⟩ : ∃ y_ : List (S78), y_ = (l0.drop (t152 : Int).toNat) := ⟨_, rfl⟩
              replace H : (if y154.length + y157.length < 4398046511104 then ((some (y154 ++ y157 : List (S78))).bind fun y161 => ((spec_l15RequestOK.f k1 x154000_1 x154001_1 x154002_1 x154003_1 y161).bind fun t164 => (if t164 = true then (some (x154000_1, x154001_1, x154002_1, x154003_1, y161, 0)) else (some ((⟨#[]⟩ : ByteArray), (⟨#[]⟩ : ByteArray), (⟨#[]⟩ : ByteArray), (⟨#[]⟩ : ByteArray), ([] : List (S78)), 17))))) else (none)) = some (r1, r2, r3, r4, r5, r6) := by first | (rw [hy157]; with_reducible exact H) | (have H2_ := (Option.bind_some _ _).symm.trans H; rw [hy157]; with_reducible exact H2_) | (have H2_ := (Option.bind_some _ _).symm.trans H; with_reducible exact H2_) | with_reducible exact H | (rw [hy157]; exact H) | exact H
              have Ny157 := Aside0.mk hy157
              clear hy157
              by_cases c61 : y154.length + y157.length < 4398046511104
              · rw [if_pos c61] at H
                have LMc61 := Aside0.mk c61
                clear c61
                obtain ⟨y161, hy161⟩ : ∃ y_ : List (S78), y_ = (y154 ++ y157) := ⟨_, rfl⟩
                replace H : ((spec_l15RequestOK.f k1 x154000_1 x154001_1 x154002_1 x154003_1 y161).bind fun t164 => (if t164 = true then (some (x154000_1, x154001_1, x154002_1, x154003_1, y161, 0)) else (some ((⟨#[]⟩ : ByteArray), (⟨#[]⟩ : ByteArray), (⟨#[]⟩ : ByteArray), (⟨#[]⟩ : ByteArray), ([] : List (S78)), 17)))) = some (r1, r2, r3, r4, r5, r6) := by first | (rw [hy161]; with_reducible exact H) | (have H2_ := (Option.bind_some _ _).symm.trans H; rw [hy161]; with_reducible exact H2_) | (have H2_ := (Option.bind_some _ _).symm.trans H; with_reducible exact H2_) | with_reducible exact H | (rw [hy161]; exact H) | exact H
                have Ny161 := Aside0.mk hy161
                clear hy161
                replace H := Option.bind_eq_some_iff.mp H
                obtain ⟨t164, A620, H⟩ := H
                replace H : (if t164 = true then (some (x154000_1, x154001_1, x154002_1, x154003_1, y161, 0)) else (some ((⟨#[]⟩ : ByteArray), (⟨#[]⟩ : ByteArray), (⟨#[]⟩ : ByteArray), (⟨#[]⟩ : ByteArray), ([] : List (S78)), 17))) = some (r1, r2, r3, r4, r5, r6) := H
                have A62 := Aside0.mk A620
                clear A620
                by_cases c63 : t164 = true
                · subst c63
                  have H1 : (some (x154000_1, x154001_1, x154002_1, x154003_1, y161, 0)) = some (r1, r2, r3, r4, r5, r6) := by rw [if_pos rfl] at H; exact H
                  clear H
                  have H := H1
                  clear H1
                  simp only [Option.some.injEq, Prod.mk.injEq] at H
                  obtain ⟨rfl, rfl, rfl, rfl, rfl, rfl⟩ := H
                  go_wp2_with (first | ((with_reducible refine gate_dst (N := 77) rfl ?_); refine Kd.R_lit k78 _ 78 ?hg (N := 77) ?hd (xs := ([] : List (S78))) (inner := []) (ok := fun _ => True) (okp := fun _ => True) ?hr ?hp (fun _ hk => hk) trivial (Below.refl _ _) (Nat.le_refl _) (by simp) ?_; (case hd => rfl); (case hg => rfl); (case hr => first | (go_simp; done) | (go_simp; rfl)); (case hp => exact (Reps.none _ _)); intro v155 w64 ho65 hb hg_ hnew_; clear hg_ hnew_; (first | rw [← Ny154.out] at ho65 | (simp only [Int.reduceToNat] at ho65; rw [← Ny154.out] at ho65)); have n0_ := Aside0.mk (Kd.R_lower ho65 (below_size (by repeat (first | (with_reducible first | exact HB.out | apply below_alloc | apply pw_below_drewN | apply below_drew1 | refine below_set ?_ GE151.out | refine below_set ?_ GE153.out) | exact HB.out)))); have n1_ := Aside0.mk (blk_below (g := gb151) (o := .cells #[.string x152000_1, .string x152001_1, .string x152002_1, .string x152003_1, .slice none 0 0] 44 (0, 0)) (by (with_reducible repeat (first | refine blk_drewN ?_ _ | refine blk_drew ?_ | refine blk_alloc ?_ _)); exact BK151.out) hb); have n2_ := Aside0.mk (blk_below (g := gb153) (o := .cells #[.string x154000_1, .string x154001_1, .string x154002_1, .string x154003_1, .slice none 0 0] 44 (0, 0)) (by (with_reducible repeat (first | refine blk_drewN ?_ _ | refine blk_drew ?_ | refine blk_alloc ?_ _)); exact BK153.out) hb); have n3_ := Aside0.mk (below_step (by repeat (first | (with_reducible first | exact HB.out | apply below_alloc | apply pw_below_drewN | apply below_drew1 | refine below_set ?_ GE151.out | refine below_set ?_ GE153.out) | exact HB.out)) hb); clear BK151; clear BK153; clear HB; have HO156 := n0_; have BK151 := n1_; have BK153 := n2_; have HB := n3_; clear n0_ n1_ n2_ n3_; clear hb ho65; have q66 : (t152 : Int) ≤ ((l0.length : Int) : Int) := of_decide_eq_true (by first | (with_reducible assumption) | assumption); obtain ⟨i066, hi066, _, hsz66, _⟩ := info_parts info78; have hroom66 : l0.length ≤ c0 := HC0.out; have hC66 : Kd.C k78 _ A0 l0.length l0 := HR0.out; have q066 : (0 : Int) ≤ (t152 : Int) := of_decide_eq_true (by first | (with_reducible assumption) | assumption); have hcut66 := cut_from (P := Tryd.prog) 34 78 .i64 Tryd.underlying34 hi066 2 hsz66 A0 l0.length c0 t152 q066 q66; have hr66 := Kd.C_drop (m := (t152 : Int).toNat) (c := c0) hC66 (by omega) hroom66; obtain ⟨A66, hA66⟩ : ∃ A1, A1 = (if c0 = (t152 : Int).toNat then A0 else (A0 : Option Addr).map (·.add ((t152 : Int).toNat * 2))) := ⟨_, rfl⟩; obtain ⟨c66, hc66⟩ : ∃ c1, c1 = c0 - (t152 : Int).toNat := ⟨_, rfl⟩; have hy66 : y157.length = l0.length - (t152 : Int).toNat := (by rw [Ny157.out, List.length_drop] <;> omega); rw [show (l0).drop (t152 : Int).toNat = y157 from Ny157.out.symm] at hr66; replace hr66 : Kd.C k78 _ A66 y157.length y157 := (by rw [hA66]; exact hr66); rw [← hy66, ← hA66, ← hc66] at hcut66; have HR160 := Aside0.mk hr66; have HC160 := Aside0.mk (show y157.length ≤ c66 from by rw [hy66, hc66]; exact Nat.sub_le_sub_right hroom66 _); clear hr66 hC66 hroom66 hi066 hsz66 hc66; have KY66 := Aside0.mk hy66; have KA66 := Aside0.mk hA66; clear hy66 hA66; replace q66 := eq_true q66) | ((with_reducible refine gate_builtin (b := .append) (xs := #[.tmp 77, .tmp 80]) rfl ?_); at_builtin; refine Kd.R_append_rows k78 (w0 := w) w.heap.size rfl (.tmp 77) (.tmp 80) 34 78 (.agg #[(.string ⟨#[]⟩), (.string ⟨#[]⟩)]) 32 rfl Tryd.underlying34 info78 rfl (by decide) (by omega) v155 y154 y157 _ _ _ (fun _ => True) (fun _ => False) rfl rfl ?aO ?aR (fun _ _ h => h) (fun _ h => h.elim) ?aF ?aB ?aS ?aL ?_; (case aR => repeat (first | exact (Kd.C_below HR160.out HB.out) | (with_reducible refine Kd.C_alloc ?_ _) | (with_reducible refine Kd.C_drewN ?_ _) | (with_reducible refine Kd.C_drew ?_))); (case aB => exact (by repeat (first | (with_reducible first | exact HB.out | apply below_alloc | apply pw_below_drewN | apply below_drew1 | refine below_set ?_ GE151.out | refine below_set ?_ GE153.out) | exact HB.out))); (case aF => exact (fun _ _ => trivial)); (case aO => exact (by (with_reducible repeat (first | apply Kd.R_alloc | apply Kd.R_drewN | apply Kd.R_drew)); exact HO156.out)); (case aS => exact (below_size (by repeat (first | (with_reducible first | exact HB.out | apply below_alloc | apply pw_below_drewN | apply below_drew1 | refine below_set ?_ GE151.out | refine below_set ?_ GE153.out) | exact HB.out)))); (case aL => have := LMc61.out; omega); intro v162 w67 ho hb hg hat; rw [← Ny161.out] at ho; have n0_ := Aside0.mk (blk_grown (g := gb151) (o := .cells #[.string x152000_1, .string x152001_1, .string x152002_1, .string x152003_1, .slice none 0 0] 44 (0, 0)) (by (with_reducible repeat (first | refine blk_drewN ?_ _ | refine blk_drew ?_ | refine blk_alloc ?_ _)); exact BK151.out) hg (Kd.R_ne HO156.out BK151.out (by decide))); have n1_ := Aside0.mk (blk_grown (g := gb153) (o := .cells #[.string x154000_1, .string x154001_1, .string x154002_1, .string x154003_1, .slice none 0 0] 44 (0, 0)) (by (with_reducible repeat (first | refine blk_drewN ?_ _ | refine blk_drew ?_ | refine blk_alloc ?_ _)); exact BK153.out) hg (Kd.R_ne HO156.out BK153.out (by decide))); have n2_ := Aside0.mk (hb); have n3_ := Aside0.mk (ho); clear BK151; clear BK153; clear HB; clear HO156; have BK151 := n0_; have BK153 := n1_; have HB := n2_; have HO163 := n3_; clear n0_ n1_ n2_ n3_; clear ho hb hg hat; obtain ⟨Ao68, co68, eo68⟩ := Kd.R_slice HO163.out; subst eo68; have hnb69 := NB153_151.out; have hnc69 := NB151_153.out; have hcz70_0 : w67.cell? ⟨gb153, 0, none⟩ = some (.string x154000_1) := (blk_cell BK153.out 0).trans rfl; have hcz70_1 : w67.cell? ⟨gb153, 1, none⟩ = some (.string x154001_1) := (blk_cell BK153.out 1).trans rfl; have hcz70_2 : w67.cell? ⟨gb153, 2, none⟩ = some (.string x154002_1) := (blk_cell BK153.out 2).trans rfl; have hcz70_3 : w67.cell? ⟨gb153, 3, none⟩ = some (.string x154003_1) := (blk_cell BK153.out 3).trans rfl; have hcz70_4 : w67.cell? ⟨gb153, 4, none⟩ = some (.slice none 0 0) := (blk_cell BK153.out 4).trans rfl; have hfz70_0 := blk_frozen BK153.out 0; have hfz70_1 := blk_frozen BK153.out 1; have hfz70_2 := blk_frozen BK153.out 2; have hfz70_3 := blk_frozen BK153.out 3; have hfz70_4 := blk_frozen BK153.out 4) | ((with_reducible refine gate_callee (f := 53) rfl ?_); refine goesL_ (some 84) rfl rfl Tryd.func53 (by kernel_rfl) rfl #[.agg #[.string x154000_1, .string x154001_1, .string x154002_1, .string x154003_1, .slice Ao68 y161.length co68]] rfl (by (try simp only [List.map_toArray, List.map_cons, List.map_nil]); first | done | rfl | (simp only [List.length_drop, List.length_take]; rfl)) ?_; (with_reducible refine (spec_l15RequestOK.calls k1 x154000_1 x154001_1 x154002_1 x154003_1 _ _ y161 true _ ?side1 ?side2 A62.out).mono ?_); (case side1 => refine (Kd.R_reads' (e := 78) (base := w.heap.size) (ok := fun k_ => True) (n := y161.length) (c := co68) ?_).2.2; exact (by (with_reducible repeat (first | apply Kd.R_alloc | apply Kd.R_drewN | apply Kd.R_drew)); exact (Kd.R_mono (Kd.R_far (p := ⟨gb153, 4, none⟩) (Kd.R_types HO163.out BK153.out (by decide)) (fun _ hk => hk.2) (.slice Ao68 y161.length co68)) (fun _ h_ => h_.1)))); (case side2 => exact (Kd.R_reads' HO163.out).2.1); rintro e w71 ⟨rfl, hb⟩; refine ⟨_, rfl, ?_⟩; have n0_ := Aside0.mk (Kd.R_below (by (with_reducible repeat (first | apply Kd.R_alloc | apply Kd.R_drewN | apply Kd.R_drew)); exact (Kd.R_mono (Kd.R_far (p := ⟨gb153, 4, none⟩) (Kd.R_types HO163.out BK153.out (by decide)) (fun _ hk => hk.2) (.slice Ao68 y161.length co68)) (fun _ h_ => h_.1))) hb); have n1_ := Aside0.mk (blk_below (g := gb151) (o := .cells #[.string x152000_1, .string x152001_1, .string x152002_1, .string x152003_1, .slice none 0 0] 44 (0, 0)) (by (with_reducible repeat (first | refine blk_drewN ?_ _ | refine blk_drew ?_ | refine blk_alloc ?_ _)); refine blk_far ?_ NB151_153.out _; (with_reducible repeat (first | refine blk_drewN ?_ _ | refine blk_drew ?_ | refine blk_alloc ?_ _)); exact BK151.out) hb); have n2_ := Aside0.mk (blk_below (g := gb153) (o := .cells #[.string x154000_1, .string x154001_1, .string x154002_1, .string x154003_1, .slice Ao68 y161.length co68] 44 (0, 0)) (by (with_reducible repeat (first | refine blk_drewN ?_ _ | refine blk_drew ?_ | refine blk_alloc ?_ _)); refine blk_put (cs := #[.string x154000_1, .string x154001_1, .string x154002_1, .string x154003_1, .slice none 0 0]) ?_ 4 _ rfl; (with_reducible repeat (first | refine blk_drewN ?_ _ | refine blk_drew ?_ | refine blk_alloc ?_ _)); exact BK153.out) hb); have n3_ := Aside0.mk (below_step (by repeat (first | (with_reducible first | exact HB.out | apply below_alloc | apply pw_below_drewN | apply below_drew1 | refine below_set ?_ GE151.out | refine below_set ?_ GE153.out) | exact HB.out)) hb); clear HO163; clear BK151; clear BK153; clear HB; have HO163 := n0_; have BK151 := n1_; have BK153 := n2_; have HB := n3_; clear n0_ n1_ n2_ n3_; (try clear hb); (try clear hb2); (try clear hk); (try clear hi); have hcz72_0 : w71.cell? ⟨gb153, 0, none⟩ = some (.string x154000_1) := (blk_cell BK153.out 0).trans rfl; have hcz72_1 : w71.cell? ⟨gb153, 1, none⟩ = some (.string x154001_1) := (blk_cell BK153.out 1).trans rfl; have hcz72_2 : w71.cell? ⟨gb153, 2, none⟩ = some (.string x154002_1) := (blk_cell BK153.out 2).trans rfl; have hcz72_3 : w71.cell? ⟨gb153, 3, none⟩ = some (.string x154003_1) := (blk_cell BK153.out 3).trans rfl; have hcz72_4 : w71.cell? ⟨gb153, 4, none⟩ = some (.slice Ao68 y161.length co68) := (blk_cell BK153.out 4).trans rfl; have hfz72_0 := blk_frozen BK153.out 0; have hfz72_1 := blk_frozen BK153.out 1; have hfz72_2 := blk_frozen BK153.out 2; have hfz72_3 := blk_frozen BK153.out 3; have hfz72_4 := blk_frozen BK153.out 4; have hcz73_0 : w71.cell? ⟨gb151, 0, none⟩ = some (.string x152000_1) := (blk_cell BK151.out 0).trans rfl; have hcz73_1 : w71.cell? ⟨gb151, 1, none⟩ = some (.string x152001_1) := (blk_cell BK151.out 1).trans rfl; have hcz73_2 : w71.cell? ⟨gb151, 2, none⟩ = some (.string x152002_1) := (blk_cell BK151.out 2).trans rfl; have hcz73_3 : w71.cell? ⟨gb151, 3, none⟩ = some (.string x152003_1) := (blk_cell BK151.out 3).trans rfl; have hcz73_4 : w71.cell? ⟨gb151, 4, none⟩ = some (.slice none 0 0) := (blk_cell BK151.out 4).trans rfl; have hfz73_0 := blk_frozen BK151.out 0; have hfz73_1 := blk_frozen BK151.out 1; have hfz73_2 := blk_frozen BK151.out 2; have hfz73_3 := blk_frozen BK151.out 3; have hfz73_4 := blk_frozen BK151.out 4))
                  refine bodyPost_ret (results_ct rfl _ _ gb151 44 #[.string x154000_1, .string x154001_1, .string x154002_1, .string x154003_1, .slice Ao68 y161.length co68] (0, 0) _ rfl (by (with_reducible repeat (first | refine blk_drewN ?_ _ | refine blk_drew ?_ | refine blk_alloc ?_ _)); refine blk_put (cs := #[.string x154000_1, .string x154001_1, .string x154002_1, .string x154003_1, .slice none 0 0]) ?_ 4 _ rfl; (with_reducible repeat (first | refine blk_drewN ?_ _ | refine blk_drew ?_ | refine blk_alloc ?_ _)); refine blk_put (cs := #[.string x154000_1, .string x154001_1, .string x154002_1, .string x152003_1, .slice none 0 0]) ?_ 3 _ rfl; (with_reducible repeat (first | refine blk_drewN ?_ _ | refine blk_drew ?_ | refine blk_alloc ?_ _)); refine blk_put (cs := #[.string x154000_1, .string x154001_1, .string x152002_1, .string x152003_1, .slice none 0 0]) ?_ 2 _ rfl; (with_reducible repeat (first | refine blk_drewN ?_ _ | refine blk_drew ?_ | refine blk_alloc ?_ _)); refine blk_put (cs := #[.string x154000_1, .string x152001_1, .string x152002_1, .string x152003_1, .slice none 0 0]) ?_ 1 _ rfl; (with_reducible repeat (first | refine blk_drewN ?_ _ | refine blk_drew ?_ | refine blk_alloc ?_ _)); refine blk_put (cs := #[.string x152000_1, .string x152001_1, .string x152002_1, .string x152003_1, .slice none 0 0]) ?_ 0 _ rfl; (with_reducible repeat (first | refine blk_drewN ?_ _ | refine blk_drew ?_ | refine blk_alloc ?_ _)); exact BK151.out) Tryd.underlying44 rfl (by kernel_rfl)) rfl ?_
                  exact ⟨_, by first | rfl | (simp [errW_none, errW_some] <;> rfl) | (simp [*, errW_none, errW_some] <;> rfl), by (with_reducible repeat (first | apply Kd.R_alloc | apply Kd.R_drewN | apply Kd.R_drew)); exact Kd.R_mono (Kd.R_far (p := ⟨gb151, 4, none⟩) (Kd.R_far (p := ⟨gb151, 3, none⟩) (Kd.R_far (p := ⟨gb151, 2, none⟩) (Kd.R_far (p := ⟨gb151, 1, none⟩) (Kd.R_far (p := ⟨gb151, 0, none⟩) (Kd.R_types HO163.out BK151.out (by decide)) (fun _ hk => hk.2) (.string x154000_1)) (fun _ hk => hk.2) (.string x154001_1)) (fun _ hk => hk.2) (.string x154002_1)) (fun _ hk => hk.2) (.string x154003_1)) (fun _ hk => hk.2) (.slice Ao68 y161.length co68)) (fun _ hk => trivial), by repeat (first | (with_reducible first | exact HB.out | apply below_alloc | apply pw_below_drewN | apply below_drew1 | refine below_set ?_ GE151.out | refine below_set ?_ GE153.out) | exact HB.out)⟩
                · replace c63 := Bool.eq_false_iff.mpr c63
                  subst c63
                  have H1 : (some ((⟨#[]⟩ : ByteArray), (⟨#[]⟩ : ByteArray), (⟨#[]⟩ : ByteArray), (⟨#[]⟩ : ByteArray), ([] : List (S78)), 17)) = some (r1, r2, r3, r4, r5, r6) := by rw [if_neg (show ¬ (false = true) by decide)] at H; exact H
                  clear H
                  have H := H1
                  clear H1
                  simp only [Option.some.injEq, Prod.mk.injEq] at H
                  obtain ⟨rfl, rfl, rfl, rfl, rfl, rfl⟩ := H
                  go_wp2_with (first | ((with_reducible refine gate_dst (N := 77) rfl ?_); refine Kd.R_lit k78 _ 78 ?hg (N := 77) ?hd (xs := ([] : List (S78))) (inner := []) (ok := fun _ => True) (okp := fun _ => True) ?hr ?hp (fun _ hk => hk) trivial (Below.refl _ _) (Nat.le_refl _) (by simp) ?_; (case hd => rfl); (case hg => rfl); (case hr => first | (go_simp; done) | (go_simp; rfl)); (case hp => exact (Reps.none _ _)); intro v155 w74 ho75 hb hg_ hnew_; clear hg_ hnew_; (first | rw [← Ny154.out] at ho75 | (simp only [Int.reduceToNat] at ho75; rw [← Ny154.out] at ho75)); have n0_ := Aside0.mk (Kd.R_lower ho75 (below_size (by repeat (first | (with_reducible first | exact HB.out | apply below_alloc | apply pw_below_drewN | apply below_drew1 | refine below_set ?_ GE151.out | refine below_set ?_ GE153.out) | exact HB.out)))); have n1_ := Aside0.mk (blk_below (g := gb151) (o := .cells #[.string x152000_1, .string x152001_1, .string x152002_1, .string x152003_1, .slice none 0 0] 44 (0, 0)) (by (with_reducible repeat (first | refine blk_drewN ?_ _ | refine blk_drew ?_ | refine blk_alloc ?_ _)); exact BK151.out) hb); have n2_ := Aside0.mk (blk_below (g := gb153) (o := .cells #[.string x154000_1, .string x154001_1, .string x154002_1, .string x154003_1, .slice none 0 0] 44 (0, 0)) (by (with_reducible repeat (first | refine blk_drewN ?_ _ | refine blk_drew ?_ | refine blk_alloc ?_ _)); exact BK153.out) hb); have n3_ := Aside0.mk (below_step (by repeat (first | (with_reducible first | exact HB.out | apply below_alloc | apply pw_below_drewN | apply below_drew1 | refine below_set ?_ GE151.out | refine below_set ?_ GE153.out) | exact HB.out)) hb); clear BK151; clear BK153; clear HB; have HO156 := n0_; have BK151 := n1_; have BK153 := n2_; have HB := n3_; clear n0_ n1_ n2_ n3_; clear hb ho75; have q76 : (t152 : Int) ≤ ((l0.length : Int) : Int) := of_decide_eq_true (by first | (with_reducible assumption) | assumption); obtain ⟨i076, hi076, _, hsz76, _⟩ := info_parts info78; have hroom76 : l0.length ≤ c0 := HC0.out; have hC76 : Kd.C k78 _ A0 l0.length l0 := HR0.out; have q076 : (0 : Int) ≤ (t152 : Int) := of_decide_eq_true (by first | (with_reducible assumption) | assumption); have hcut76 := cut_from (P := Tryd.prog) 34 78 .i64 Tryd.underlying34 hi076 2 hsz76 A0 l0.length c0 t152 q076 q76; have hr76 := Kd.C_drop (m := (t152 : Int).toNat) (c := c0) hC76 (by omega) hroom76; obtain ⟨A76, hA76⟩ : ∃ A1, A1 = (if c0 = (t152 : Int).toNat then A0 else (A0 : Option Addr).map (·.add ((t152 : Int).toNat * 2))) := ⟨_, rfl⟩; obtain ⟨c76, hc76⟩ : ∃ c1, c1 = c0 - (t152 : Int).toNat := ⟨_, rfl⟩; have hy76 : y157.length = l0.length - (t152 : Int).toNat := (by rw [Ny157.out, List.length_drop] <;> omega); rw [show (l0).drop (t152 : Int).toNat = y157 from Ny157.out.symm] at hr76; replace hr76 : Kd.C k78 _ A76 y157.length y157 := (by rw [hA76]; exact hr76); rw [← hy76, ← hA76, ← hc76] at hcut76; have HR160 := Aside0.mk hr76; have HC160 := Aside0.mk (show y157.length ≤ c76 from by rw [hy76, hc76]; exact Nat.sub_le_sub_right hroom76 _); clear hr76 hC76 hroom76 hi076 hsz76 hc76; have KY76 := Aside0.mk hy76; have KA76 := Aside0.mk hA76; clear hy76 hA76; replace q76 := eq_true q76) | ((with_reducible refine gate_builtin (b := .append) (xs := #[.tmp 77, .tmp 80]) rfl ?_); at_builtin; refine Kd.R_append_rows k78 (w0 := w) w.heap.size rfl (.tmp 77) (.tmp 80) 34 78 (.agg #[(.string ⟨#[]⟩), (.string ⟨#[]⟩)]) 32 rfl Tryd.underlying34 info78 rfl (by decide) (by omega) v155 y154 y157 _ _ _ (fun _ => True) (fun _ => False) rfl rfl ?aO ?aR (fun _ _ h => h) (fun _ h => h.elim) ?aF ?aB ?aS ?aL ?_; (case aR => repeat (first | exact (Kd.C_below HR160.out HB.out) | (with_reducible refine Kd.C_alloc ?_ _) | (with_reducible refine Kd.C_drewN ?_ _) | (with_reducible refine Kd.C_drew ?_))); (case aB => exact (by repeat (first | (with_reducible first | exact HB.out | apply below_alloc | apply pw_below_drewN | apply below_drew1 | refine below_set ?_ GE151.out | refine below_set ?_ GE153.out) | exact HB.out))); (case aF => exact (fun _ _ => trivial)); (case aO => exact (by (with_reducible repeat (first | apply Kd.R_alloc | apply Kd.R_drewN | apply Kd.R_drew)); exact HO156.out)); (case aS => exact (below_size (by repeat (first | (with_reducible first | exact HB.out | apply below_alloc | apply pw_below_drewN | apply below_drew1 | refine below_set ?_ GE151.out | refine below_set ?_ GE153.out) | exact HB.out)))); (case aL => have := LMc61.out; omega); intro v162 w77 ho hb hg hat; rw [← Ny161.out] at ho; have n0_ := Aside0.mk (blk_grown (g := gb151) (o := .cells #[.string x152000_1, .string x152001_1, .string x152002_1, .string x152003_1, .slice none 0 0] 44 (0, 0)) (by (with_reducible repeat (first | refine blk_drewN ?_ _ | refine blk_drew ?_ | refine blk_alloc ?_ _)); exact BK151.out) hg (Kd.R_ne HO156.out BK151.out (by decide))); have n1_ := Aside0.mk (blk_grown (g := gb153) (o := .cells #[.string x154000_1, .string x154001_1, .string x154002_1, .string x154003_1, .slice none 0 0] 44 (0, 0)) (by (with_reducible repeat (first | refine blk_drewN ?_ _ | refine blk_drew ?_ | refine blk_alloc ?_ _)); exact BK153.out) hg (Kd.R_ne HO156.out BK153.out (by decide))); have n2_ := Aside0.mk (hb); have n3_ := Aside0.mk (ho); clear BK151; clear BK153; clear HB; clear HO156; have BK151 := n0_; have BK153 := n1_; have HB := n2_; have HO163 := n3_; clear n0_ n1_ n2_ n3_; clear ho hb hg hat; obtain ⟨Ao78, co78, eo78⟩ := Kd.R_slice HO163.out; subst eo78; have hnb79 := NB153_151.out; have hnc79 := NB151_153.out; have hcz80_0 : w77.cell? ⟨gb153, 0, none⟩ = some (.string x154000_1) := (blk_cell BK153.out 0).trans rfl; have hcz80_1 : w77.cell? ⟨gb153, 1, none⟩ = some (.string x154001_1) := (blk_cell BK153.out 1).trans rfl; have hcz80_2 : w77.cell? ⟨gb153, 2, none⟩ = some (.string x154002_1) := (blk_cell BK153.out 2).trans rfl; have hcz80_3 : w77.cell? ⟨gb153, 3, none⟩ = some (.string x154003_1) := (blk_cell BK153.out 3).trans rfl; have hcz80_4 : w77.cell? ⟨gb153, 4, none⟩ = some (.slice none 0 0) := (blk_cell BK153.out 4).trans rfl; have hfz80_0 := blk_frozen BK153.out 0; have hfz80_1 := blk_frozen BK153.out 1; have hfz80_2 := blk_frozen BK153.out 2; have hfz80_3 := blk_frozen BK153.out 3; have hfz80_4 := blk_frozen BK153.out 4) | ((with_reducible refine gate_callee (f := 53) rfl ?_); refine goesL_ (some 84) rfl rfl Tryd.func53 (by kernel_rfl) rfl #[.agg #[.string x154000_1, .string x154001_1, .string x154002_1, .string x154003_1, .slice Ao78 y161.length co78]] rfl (by (try simp only [List.map_toArray, List.map_cons, List.map_nil]); first | done | rfl | (simp only [List.length_drop, List.length_take]; rfl)) ?_; (with_reducible refine (spec_l15RequestOK.calls k1 x154000_1 x154001_1 x154002_1 x154003_1 _ _ y161 false _ ?side1 ?side2 A62.out).mono ?_); (case side1 => refine (Kd.R_reads' (e := 78) (base := w.heap.size) (ok := fun k_ => True) (n := y161.length) (c := co78) ?_).2.2; exact (by (with_reducible repeat (first | apply Kd.R_alloc | apply Kd.R_drewN | apply Kd.R_drew)); exact (Kd.R_mono (Kd.R_far (p := ⟨gb153, 4, none⟩) (Kd.R_types HO163.out BK153.out (by decide)) (fun _ hk => hk.2) (.slice Ao78 y161.length co78)) (fun _ h_ => h_.1)))); (case side2 => exact (Kd.R_reads' HO163.out).2.1); rintro e w81 ⟨rfl, hb⟩; refine ⟨_, rfl, ?_⟩; have n0_ := Aside0.mk (Kd.R_below (by (with_reducible repeat (first | apply Kd.R_alloc | apply Kd.R_drewN | apply Kd.R_drew)); exact (Kd.R_mono (Kd.R_far (p := ⟨gb153, 4, none⟩) (Kd.R_types HO163.out BK153.out (by decide)) (fun _ hk => hk.2) (.slice Ao78 y161.length co78)) (fun _ h_ => h_.1))) hb); have n1_ := Aside0.mk (blk_below (g := gb151) (o := .cells #[.string x152000_1, .string x152001_1, .string x152002_1, .string x152003_1, .slice none 0 0] 44 (0, 0)) (by (with_reducible repeat (first | refine blk_drewN ?_ _ | refine blk_drew ?_ | refine blk_alloc ?_ _)); refine blk_far ?_ NB151_153.out _; (with_reducible repeat (first | refine blk_drewN ?_ _ | refine blk_drew ?_ | refine blk_alloc ?_ _)); exact BK151.out) hb); have n2_ := Aside0.mk (blk_below (g := gb153) (o := .cells #[.string x154000_1, .string x154001_1, .string x154002_1, .string x154003_1, .slice Ao78 y161.length co78] 44 (0, 0)) (by (with_reducible repeat (first | refine blk_drewN ?_ _ | refine blk_drew ?_ | refine blk_alloc ?_ _)); refine blk_put (cs := #[.string x154000_1, .string x154001_1, .string x154002_1, .string x154003_1, .slice none 0 0]) ?_ 4 _ rfl; (with_reducible repeat (first | refine blk_drewN ?_ _ | refine blk_drew ?_ | refine blk_alloc ?_ _)); exact BK153.out) hb); have n3_ := Aside0.mk (below_step (by repeat (first | (with_reducible first | exact HB.out | apply below_alloc | apply pw_below_drewN | apply below_drew1 | refine below_set ?_ GE151.out | refine below_set ?_ GE153.out) | exact HB.out)) hb); clear HO163; clear BK151; clear BK153; clear HB; have HO163 := n0_; have BK151 := n1_; have BK153 := n2_; have HB := n3_; clear n0_ n1_ n2_ n3_; (try clear hb); (try clear hb2); (try clear hk); (try clear hi); have hcz82_0 : w81.cell? ⟨gb151, 0, none⟩ = some (.string x152000_1) := (blk_cell BK151.out 0).trans rfl; have hcz82_1 : w81.cell? ⟨gb151, 1, none⟩ = some (.string x152001_1) := (blk_cell BK151.out 1).trans rfl; have hcz82_2 : w81.cell? ⟨gb151, 2, none⟩ = some (.string x152002_1) := (blk_cell BK151.out 2).trans rfl; have hcz82_3 : w81.cell? ⟨gb151, 3, none⟩ = some (.string x152003_1) := (blk_cell BK151.out 3).trans rfl; have hcz82_4 : w81.cell? ⟨gb151, 4, none⟩ = some (.slice none 0 0) := (blk_cell BK151.out 4).trans rfl; have hfz82_0 := blk_frozen BK151.out 0; have hfz82_1 := blk_frozen BK151.out 1; have hfz82_2 := blk_frozen BK151.out 2; have hfz82_3 := blk_frozen BK151.out 3; have hfz82_4 := blk_frozen BK151.out 4))
                  refine bodyPost_ret (results_ct rfl _ _ gb151 44 #[.string (⟨#[]⟩ : ByteArray), .string (⟨#[]⟩ : ByteArray), .string (⟨#[]⟩ : ByteArray), .string (⟨#[]⟩ : ByteArray), .slice none 0 0] (0, 0) _ rfl (by (with_reducible repeat (first | refine blk_drewN ?_ _ | refine blk_drew ?_ | refine blk_alloc ?_ _)); refine blk_put (cs := #[.string (⟨#[]⟩ : ByteArray), .string (⟨#[]⟩ : ByteArray), .string (⟨#[]⟩ : ByteArray), .string (⟨#[]⟩ : ByteArray), .slice none 0 0]) ?_ 4 _ rfl; (with_reducible repeat (first | refine blk_drewN ?_ _ | refine blk_drew ?_ | refine blk_alloc ?_ _)); refine blk_put (cs := #[.string (⟨#[]⟩ : ByteArray), .string (⟨#[]⟩ : ByteArray), .string (⟨#[]⟩ : ByteArray), .string x152003_1, .slice none 0 0]) ?_ 3 _ rfl; (with_reducible repeat (first | refine blk_drewN ?_ _ | refine blk_drew ?_ | refine blk_alloc ?_ _)); refine blk_put (cs := #[.string (⟨#[]⟩ : ByteArray), .string (⟨#[]⟩ : ByteArray), .string x152002_1, .string x152003_1, .slice none 0 0]) ?_ 2 _ rfl; (with_reducible repeat (first | refine blk_drewN ?_ _ | refine blk_drew ?_ | refine blk_alloc ?_ _)); refine blk_put (cs := #[.string (⟨#[]⟩ : ByteArray), .string x152001_1, .string x152002_1, .string x152003_1, .slice none 0 0]) ?_ 1 _ rfl; (with_reducible repeat (first | refine blk_drewN ?_ _ | refine blk_drew ?_ | refine blk_alloc ?_ _)); refine blk_put (cs := #[.string x152000_1, .string x152001_1, .string x152002_1, .string x152003_1, .slice none 0 0]) ?_ 0 _ rfl; (with_reducible repeat (first | refine blk_drewN ?_ _ | refine blk_drew ?_ | refine blk_alloc ?_ _)); exact BK151.out) Tryd.underlying44 rfl (by kernel_rfl)) rfl ?_
                  exact ⟨_, by first | rfl | (simp [errW_none, errW_some] <;> rfl) | (simp [*, errW_none, errW_some] <;> rfl), by first | exact Kd.R_nil _ _ _ _ _ | exact Kd.N_nil _ _ _ _ _ | exact Kd.V_nil _ _ _ _ _ | exact Kd.Q_nil _ _ _ _ _ | exact Kd.S_nil _ _ _ _ _, by repeat (first | (with_reducible first | exact HB.out | apply below_alloc | apply pw_below_drewN | apply below_drew1 | refine below_set ?_ GE151.out | refine below_set ?_ GE153.out) | exact HB.out)⟩
              · rw [if_neg c61] at H
                exact absurd H (by simp)
            · rw [if_neg c60] at H
              exact absurd H (by simp)
          · rw [if_neg c59] at H
            exact absurd H (by simp)

end Go.Proofs.YtkcimmlaoipdkaaDoor.PFnExactRequestOf
