-- Written by a program of this repo (xprint.py) out of the translation; Lean checks it.
import Derived.Test.YtkcimmlaoipdkaaDoorPFnExactResponseOfx0
import Derived.Test.YtkcimmlaoipdkaaDoorPFnExactResponseOfx6
namespace Go.Proofs.YtkcimmlaoipdkaaDoor.PFnExactResponseOf
open Go.RowKit Go.Proofs.YtkcimmlaoipdkaaDoorW.PrintWords Go.Proofs.YtkcimmlaoipdkaaDoorW.PrintLast Go.Proofs.YtkcimmlaoipdkaaDoorW.PrintMore
attribute [local go_sem] max2_int min2_int max_two min_two max_three min_three max_four min_four   -- for this text's walks alone
set_option linter.unusedVariables false
set_option linter.unusedSimpArgs false

/-! ### impl_plainOK: function 100 -/
def impl_plainOK.j0 : Nat → Bool → ByteArray → ByteArray → Option (Bool)
  | 0, _, _, _ => none
  | k + 1, x5, x179000, x179001 => if x5 = true then (some false) else ((impl_fieldOK.f k x179000 x179001).bind fun t179 => (if t179 = true then (if 0 < (x179000.size : Int) then (if (bt x179000 0) = 58 then (some false) else ((impl_trimmed.f x179001).bind fun t180 => (some t180))) else (none)) else (some false)))
def impl_plainOK.f (k : Nat) (a0_0 : ByteArray) (a0_1 : ByteArray) : Option (Bool) := if a0_0.toList = ([99, 111, 110, 110, 101, 99, 116, 105, 111, 110] : List UInt8) then (impl_plainOK.j0 k (a0_0.toList == ([99, 111, 110, 110, 101, 99, 116, 105, 111, 110] : List UInt8)) a0_0 a0_1) else (if a0_0.toList = ([107, 101, 101, 112, 45, 97, 108, 105, 118, 101] : List UInt8) then (impl_plainOK.j0 k (a0_0.toList == ([107, 101, 101, 112, 45, 97, 108, 105, 118, 101] : List UInt8)) a0_0 a0_1) else (if a0_0.toList = ([116, 114, 97, 110, 115, 102, 101, 114, 45, 101, 110, 99, 111, 100, 105, 110, 103] : List UInt8) then (impl_plainOK.j0 k (a0_0.toList == ([116, 114, 97, 110, 115, 102, 101, 114, 45, 101, 110, 99, 111, 100, 105, 110, 103] : List UInt8)) a0_0 a0_1) else (impl_plainOK.j0 k (a0_0.toList == ([117, 112, 103, 114, 97, 100, 101] : List UInt8)) a0_0 a0_1)))
theorem impl_plainOK.mono_l : ∀ k, (∀ y0 y1 y2, LeO (impl_plainOK.j0 k y0 y1 y2) (impl_plainOK.j0 (k + 1) y0 y1 y2))
  | 0 => fun _ _ _ r h => by simp [impl_plainOK.j0] at h
  | k + 1 => by
    have ih0 := impl_plainOK.mono_l k
    · intro y0 y1 y2
      unfold impl_plainOK.j0
      repeat' first
      | (with_reducible exact ih0 _ _ _)
      | (with_reducible exact impl_fieldOK.mono _ _ _)
      | (with_reducible exact LeO.refl _)
      | (with_reducible exact LeO.none _)
      | (with_reducible refine LeO.ite ?_ ?_)
      | (with_reducible refine LeO.bind ?_ (fun _ => ?_))
      | exact ih0 _ _ _
      | exact impl_fieldOK.mono _ _ _
      | exact LeO.none _
      | refine LeO.ite ?_ ?_
      | refine LeO.bind ?_ (fun _ => ?_)
theorem impl_plainOK.mono : ∀ a0 a1 k, LeO (impl_plainOK.f k a0 a1) (impl_plainOK.f (k + 1) a0 a1) := by
  intro a0 a1 k
  have ih0 := impl_plainOK.mono_l k
  unfold impl_plainOK.f
  repeat' first
      | (with_reducible exact ih0 _ _ _)
      | (with_reducible exact impl_fieldOK.mono _ _ _)
      | (with_reducible exact LeO.refl _)
      | (with_reducible exact LeO.none _)
      | (with_reducible refine LeO.ite ?_ ?_)
      | (with_reducible refine LeO.bind ?_ (fun _ => ?_))
      | exact ih0 _ _ _
      | exact impl_fieldOK.mono _ _ _
      | exact LeO.none _
      | refine LeO.ite ?_ ?_
      | refine LeO.bind ?_ (fun _ => ?_)
set_option maxHeartbeats 8000000 in
set_option maxRecDepth 100000 in
theorem impl_plainOK.calls (k : Nat) (a0_0 : ByteArray) (a0_1 : ByteArray) (r : Bool) (w : World) (h : impl_plainOK.f k a0_0 a0_1 = some r) :
    Calls Tryd.prog 100 #[.agg #[.string a0_0, .string a0_1]] w fun e w' => e = .returned (.bool r) ∧ Below w.heap.size w w' := by
  have hu78 := Tryd.underlying78
  have HB := Aside0.mk (Below.refl w.heap.size w)
  have H : (if a0_0.toList = ([99, 111, 110, 110, 101, 99, 116, 105, 111, 110] : List UInt8) then (impl_plainOK.j0 k (a0_0.toList == ([99, 111, 110, 110, 101, 99, 116, 105, 111, 110] : List UInt8)) a0_0 a0_1) else (if a0_0.toList = ([107, 101, 101, 112, 45, 97, 108, 105, 118, 101] : List UInt8) then (impl_plainOK.j0 k (a0_0.toList == ([107, 101, 101, 112, 45, 97, 108, 105, 118, 101] : List UInt8)) a0_0 a0_1) else (if a0_0.toList = ([116, 114, 97, 110, 115, 102, 101, 114, 45, 101, 110, 99, 111, 100, 105, 110, 103] : List UInt8) then (impl_plainOK.j0 k (a0_0.toList == ([116, 114, 97, 110, 115, 102, 101, 114, 45, 101, 110, 99, 111, 100, 105, 110, 103] : List UInt8)) a0_0 a0_1) else (impl_plainOK.j0 k (a0_0.toList == ([117, 112, 103, 114, 97, 100, 101] : List UInt8)) a0_0 a0_1)))) = some r := h
  clear h
  have HC2 := Aside0.mk H
  clear H
  go_enter Tryd.func100, Tryd.ntmps100
  go_upto_if 5 with (first | ((with_reducible refine gate_dst (N := 1) rfl ?_); refine box_event ?hg (N := 1) ?hd (cs := #[.string a0_0, .string a0_1]) (t := 78) ?hr ?_; (case hd => rfl); (case hg => rfl); (case hr => first | (go_simp; done) | (go_simp; rfl)); intro gb178 hg w3 hbox hb; have n0_ := Aside0.mk (below_step (by repeat (first | (with_reducible first | exact HB.out | apply below_alloc | apply pw_below_drewN | apply below_drew1) | exact HB.out)) hb); have n1_ := Aside0.mk (hbox); have n2_ := Aside0.mk ((by rw [hg]; exact (below_size (by repeat (first | (with_reducible first | exact HB.out | apply below_alloc | apply pw_below_drewN | apply below_drew1) | exact HB.out))) : w.heap.size ≤ gb178)); have n3_ := Aside0.mk ((by rw [hg]; exact (below_size (by repeat (first | (with_reducible first | exact HB.out | apply below_alloc | apply pw_below_drewN | apply below_drew1) | exact HB.out))) : w.heap.size ≤ gb178)); clear HB; have HB := n0_; have BK178 := n1_; have GW178 := n2_; have GE178 := n3_; clear n0_ n1_ n2_ n3_; clear hb hbox hg; have hcz4_0 : w3.cell? ⟨gb178, 0, none⟩ = some (.string a0_0) := (blk_cell BK178.out 0).trans rfl; have hcz4_1 : w3.cell? ⟨gb178, 1, none⟩ = some (.string a0_1) := (blk_cell BK178.out 1).trans rfl; have hfz4_0 := blk_frozen BK178.out 0; have hfz4_1 := blk_frozen BK178.out 1))
  (try simp only [Act.put, List.setIfInBounds_toArray, List.set_cons_zero, List.set_cons_succ])
  go_cut [5] (fun v5 wc => ∃ (kq : Nat) (x5_1 : Bool), v5 = .bool x5_1 ∧ Aside0 (impl_plainOK.j0 kq x5_1 a0_0 a0_1 = some r) ∧ Aside0 (kq ≤ k) ∧ Aside0 (wc.heap[gb178]? = some (.cells #[.string a0_0, .string a0_1] 78 (0, 0))) ∧ Aside0 (Below w.heap.size w wc))
  case first =>
    have H := HC2.out
    clear HC2
    by_cases c5 : a0_0.toList = ([99, 111, 110, 110, 101, 99, 116, 105, 111, 110] : List UInt8)
    · rw [if_pos c5] at H
      have c5b0 : (a0_0.toList == ([99, 111, 110, 110, 101, 99, 116, 105, 111, 110] : List UInt8)) = true := beq_iff_eq.mpr c5
      have c5b1 : (a0_0.toList != ([99, 111, 110, 110, 101, 99, 116, 105, 111, 110] : List UInt8)) = false := bne_eq_false_iff_eq.mpr c5
      clear c5
      (first | rw [c5b0] | (simp only [i64_w, i32_w]; rw [c5b0]) | skip)
      have H' := Aside0.mk H
      clear H
      go_wp2
      go_meet
      case rel => exact ⟨_, ((a0_0.toList == ([99, 111, 110, 110, 101, 99, 116, 105, 111, 110] : List UInt8))), (by first | rfl | (simp; done) | (simp [*]; done)), H', ⟨by first | omega | exact Nat.le_refl _⟩, ⟨by (with_reducible repeat (first | refine blk_drewN ?_ _ | refine blk_drew ?_ | refine blk_alloc ?_ _)); exact BK178.out⟩, ⟨by repeat (first | (with_reducible first | exact HB.out | apply below_alloc | apply pw_below_drewN | apply below_drew1 | refine below_set ?_ GE178.out) | exact HB.out)⟩⟩
    · rw [if_neg c5] at H
      have c5b0 : (a0_0.toList == ([99, 111, 110, 110, 101, 99, 116, 105, 111, 110] : List UInt8)) = false := beq_eq_false_iff_ne.mpr c5
      have c5b1 : (a0_0.toList != ([99, 111, 110, 110, 101, 99, 116, 105, 111, 110] : List UInt8)) = true := bne_iff_ne.mpr c5
      (first | rw [c5b0] | (simp only [i64_w, i32_w]; rw [c5b0]) | skip)
      by_cases c6 : a0_0.toList = ([107, 101, 101, 112, 45, 97, 108, 105, 118, 101] : List UInt8)
      · rw [if_pos c6] at H
        have c6b0 : (a0_0.toList == ([107, 101, 101, 112, 45, 97, 108, 105, 118, 101] : List UInt8)) = true := beq_iff_eq.mpr c6
        have c6b1 : (a0_0.toList != ([107, 101, 101, 112, 45, 97, 108, 105, 118, 101] : List UInt8)) = false := bne_eq_false_iff_eq.mpr c6
        clear c6
        have H' := Aside0.mk H
        clear H
        go_wp2
        go_meet
        case rel => exact ⟨_, ((a0_0.toList == ([107, 101, 101, 112, 45, 97, 108, 105, 118, 101] : List UInt8))), (by first | rfl | (simp; done) | (simp [*]; done)), H', ⟨by first | omega | exact Nat.le_refl _⟩, ⟨by (with_reducible repeat (first | refine blk_drewN ?_ _ | refine blk_drew ?_ | refine blk_alloc ?_ _)); exact BK178.out⟩, ⟨by repeat (first | (with_reducible first | exact HB.out | apply below_alloc | apply pw_below_drewN | apply below_drew1 | refine below_set ?_ GE178.out) | exact HB.out)⟩⟩
      · rw [if_neg c6] at H
        have c6b0 : (a0_0.toList == ([107, 101, 101, 112, 45, 97, 108, 105, 118, 101] : List UInt8)) = false := beq_eq_false_iff_ne.mpr c6
        have c6b1 : (a0_0.toList != ([107, 101, 101, 112, 45, 97, 108, 105, 118, 101] : List UInt8)) = true := bne_iff_ne.mpr c6
        by_cases c7 : a0_0.toList = ([116, 114, 97, 110, 115, 102, 101, 114, 45, 101, 110, 99, 111, 100, 105, 110, 103] : List UInt8)
        · rw [if_pos c7] at H
          have c7b0 : (a0_0.toList == ([116, 114, 97, 110, 115, 102, 101, 114, 45, 101, 110, 99, 111, 100, 105, 110, 103] : List UInt8)) = true := beq_iff_eq.mpr c7
          have c7b1 : (a0_0.toList != ([116, 114, 97, 110, 115, 102, 101, 114, 45, 101, 110, 99, 111, 100, 105, 110, 103] : List UInt8)) = false := bne_eq_false_iff_eq.mpr c7
          clear c7
          have H' := Aside0.mk H
          clear H
          go_wp2
          go_meet
          case rel => exact ⟨_, ((a0_0.toList == ([116, 114, 97, 110, 115, 102, 101, 114, 45, 101, 110, 99, 111, 100, 105, 110, 103] : List UInt8))), (by first | rfl | (simp; done) | (simp [*]; done)), H', ⟨by first | omega | exact Nat.le_refl _⟩, ⟨by (with_reducible repeat (first | refine blk_drewN ?_ _ | refine blk_drew ?_ | refine blk_alloc ?_ _)); exact BK178.out⟩, ⟨by repeat (first | (with_reducible first | exact HB.out | apply below_alloc | apply pw_below_drewN | apply below_drew1 | refine below_set ?_ GE178.out) | exact HB.out)⟩⟩
        · rw [if_neg c7] at H
          have c7b0 : (a0_0.toList == ([116, 114, 97, 110, 115, 102, 101, 114, 45, 101, 110, 99, 111, 100, 105, 110, 103] : List UInt8)) = false := beq_eq_false_iff_ne.mpr c7
          have c7b1 : (a0_0.toList != ([116, 114, 97, 110, 115, 102, 101, 114, 45, 101, 110, 99, 111, 100, 105, 110, 103] : List UInt8)) = true := bne_iff_ne.mpr c7
          have H' := Aside0.mk H
          clear H
          go_wp2
          go_meet
          case rel => exact ⟨_, ((a0_0.toList == ([117, 112, 103, 114, 97, 100, 101] : List UInt8))), (by first | rfl | (simp; done) | (simp [*]; done)), H', ⟨by first | omega | exact Nat.le_refl _⟩, ⟨by (with_reducible repeat (first | refine blk_drewN ?_ _ | refine blk_drew ?_ | refine blk_alloc ?_ _)); exact BK178.out⟩, ⟨by repeat (first | (with_reducible first | exact HB.out | apply below_alloc | apply pw_below_drewN | apply below_drew1 | refine below_set ?_ GE178.out) | exact HB.out)⟩⟩
  case rest =>
    clear HC2
    try clear c1
    try clear p2
    try clear c5
    try clear c5b0
    try clear c5b1
    try clear c6
    try clear c6b0
    try clear c6b1
    try clear c7
    try clear c7b0
    try clear c7b1
    try clear hcz4_0
    try clear hcz4_1
    try clear hfz4_0
    try clear hfz4_1
    obtain ⟨kq, x5_1, rfl, HA, HJ1, BK178, HB⟩ := hcut
    cases kq with
    | zero => exact absurd HA.out (by simp [impl_plainOK.j0])
    | succ kj1 =>
      have H := HA.out
      clear HA
      simp only [impl_plainOK.j0] at H
      by_cases c8 : x5_1 = true
      · subst c8
        have H1 : (some false) = some r := by rw [if_pos rfl] at H; exact H
        clear H
        have H := H1
        clear H1
        obtain rfl := Option.some.inj H
        go_wp2
        go_ret
        exact ⟨by first | rfl | (simp [errW_none, errW_some] <;> rfl) | (simp [*, errW_none, errW_some] <;> rfl), by repeat (first | (with_reducible first | exact HB.out | apply below_alloc | apply pw_below_drewN | apply below_drew1 | refine below_set ?_ GE178.out) | exact HB.out)⟩
      · replace c8 := Bool.eq_false_iff.mpr c8
        subst c8
        have H1 : ((impl_fieldOK.f kj1 a0_0 a0_1).bind fun t179 => (if t179 = true then (if 0 < (a0_0.size : Int) then (if (bt a0_0 0) = 58 then (some false) else ((impl_trimmed.f a0_1).bind fun t180 => (some t180))) else (none)) else (some false))) = some r := by rw [if_neg (show ¬ (false = true) by decide)] at H; exact H
        clear H
        have H := H1
        clear H1
        replace H := Option.bind_eq_some_iff.mp H
        obtain ⟨t179, A90, H⟩ := H
        replace H : (if t179 = true then (if 0 < (a0_0.size : Int) then (if (bt a0_0 0) = 58 then (some false) else ((impl_trimmed.f a0_1).bind fun t180 => (some t180))) else (none)) else (some false)) = some r := H
        have A9 := Aside0.mk A90
        clear A90
        by_cases c10 : t179 = true
        · subst c10
          have H1 : (if 0 < (a0_0.size : Int) then (if (bt a0_0 0) = 58 then (some false) else ((impl_trimmed.f a0_1).bind fun t180 => (some t180))) else (none)) = some r := by rw [if_pos rfl] at H; exact H
          clear H
          have H := H1
          clear H1
          by_cases c11 : 0 < (a0_0.size : Int)
          · rw [if_pos c11] at H
            have c11b0 : decide (0 < (a0_0.size : Int)) = true := decide_eq_true c11
            have c11b1 : decide (0 < a0_0.size) = true := decide_eq_true (by omega)
            clear c11
            by_cases c13 : (bt a0_0 0) = 58
            · rw [if_pos c13] at H
              have c13b0 : ((bt a0_0 0) == 58) = true := beq_iff_eq.mpr c13
              have c13b1 : ((bt a0_0 0) != 58) = false := bne_eq_false_iff_eq.mpr c13
              clear c13
              obtain rfl := Option.some.inj H
              have hcz14_0 : wc.cell? ⟨gb178, 0, none⟩ = some (.string a0_0) := (blk_cell BK178.out 0).trans rfl
              have hcz14_1 : wc.cell? ⟨gb178, 1, none⟩ = some (.string a0_1) := (blk_cell BK178.out 1).trans rfl
              have hfz14_0 := blk_frozen BK178.out 0
              have hfz14_1 := blk_frozen BK178.out 1
              go_wp2_with (first | ((with_reducible refine gate_callee (f := 116) rfl ?_); refine goesL_ (some 11) rfl rfl Tryd.func116 (by kernel_rfl) rfl #[.agg #[.string a0_0, .string a0_1]] rfl (by (try simp only [List.map_toArray, List.map_cons, List.map_nil]); first | done | rfl | (simp only [List.length_drop, List.length_take]; rfl)) ?_; (with_reducible refine (impl_fieldOK.calls kj1 a0_0 a0_1 true _ A9.out).mono ?_); rintro e w15 ⟨rfl, hb⟩; refine ⟨_, rfl, ?_⟩; have n0_ := Aside0.mk (blk_below (g := gb178) (o := .cells #[.string a0_0, .string a0_1] 78 (0, 0)) (by (with_reducible repeat (first | refine blk_drewN ?_ _ | refine blk_drew ?_ | refine blk_alloc ?_ _)); exact BK178.out) hb); have n1_ := Aside0.mk (below_step (by repeat (first | (with_reducible first | exact HB.out | apply below_alloc | apply pw_below_drewN | apply below_drew1 | refine below_set ?_ GE178.out) | exact HB.out)) hb); clear BK178; clear HB; have BK178 := n0_; have HB := n1_; clear n0_ n1_; (try clear hb); (try clear hb2); (try clear hk); (try clear hi); have hcz16_0 : w15.cell? ⟨gb178, 0, none⟩ = some (.string a0_0) := (blk_cell BK178.out 0).trans rfl; have hcz16_1 : w15.cell? ⟨gb178, 1, none⟩ = some (.string a0_1) := (blk_cell BK178.out 1).trans rfl; have hfz16_0 := blk_frozen BK178.out 0; have hfz16_1 := blk_frozen BK178.out 1; have p12 : 0 ≤ (0 : Int) := (by omega); have q12 : 0 < a0_0.size := (by have : (0 : Int) < (a0_0.size : Int) := of_decide_eq_true (by first | (with_reducible assumption) | assumption); omega); have hx12 : ∀ h : 0 < a0_0.size, ((a0_0[0]'h).toNat : Int) = bt a0_0 0 := bt_at a0_0 0; clear p12; have qi12 : (0 < (a0_0.size : Int)) = True := eq_true (of_decide_eq_true (by first | (with_reducible assumption) | assumption)); replace q12 := eq_true q12))
              go_ret
              exact ⟨by first | rfl | (simp [errW_none, errW_some] <;> rfl) | (simp [*, errW_none, errW_some] <;> rfl), by repeat (first | (with_reducible first | exact HB.out | apply below_alloc | apply pw_below_drewN | apply below_drew1 | refine below_set ?_ GE178.out) | exact HB.out)⟩
            · rw [if_neg c13] at H
              have c13b0 : ((bt a0_0 0) == 58) = false := beq_eq_false_iff_ne.mpr c13
              have c13b1 : ((bt a0_0 0) != 58) = true := bne_iff_ne.mpr c13
              replace H := Option.bind_eq_some_iff.mp H
              obtain ⟨t180, A170, H⟩ := H
              replace H : (some t180) = some r := H
              have A17 := Aside0.mk A170
              clear A170
              obtain rfl := Option.some.inj H
              have hcz18_0 : wc.cell? ⟨gb178, 0, none⟩ = some (.string a0_0) := (blk_cell BK178.out 0).trans rfl
              have hcz18_1 : wc.cell? ⟨gb178, 1, none⟩ = some (.string a0_1) := (blk_cell BK178.out 1).trans rfl
              have hfz18_0 := blk_frozen BK178.out 0
              have hfz18_1 := blk_frozen BK178.out 1
              go_wp2_with (first | ((with_reducible refine gate_callee (f := 116) rfl ?_); refine goesL_ (some 11) rfl rfl Tryd.func116 (by kernel_rfl) rfl #[.agg #[.string a0_0, .string a0_1]] rfl (by (try simp only [List.map_toArray, List.map_cons, List.map_nil]); first | done | rfl | (simp only [List.length_drop, List.length_take]; rfl)) ?_; (with_reducible refine (impl_fieldOK.calls kj1 a0_0 a0_1 true _ A9.out).mono ?_); rintro e w19 ⟨rfl, hb⟩; refine ⟨_, rfl, ?_⟩; have n0_ := Aside0.mk (blk_below (g := gb178) (o := .cells #[.string a0_0, .string a0_1] 78 (0, 0)) (by (with_reducible repeat (first | refine blk_drewN ?_ _ | refine blk_drew ?_ | refine blk_alloc ?_ _)); exact BK178.out) hb); have n1_ := Aside0.mk (below_step (by repeat (first | (with_reducible first | exact HB.out | apply below_alloc | apply pw_below_drewN | apply below_drew1 | refine below_set ?_ GE178.out) | exact HB.out)) hb); clear BK178; clear HB; have BK178 := n0_; have HB := n1_; clear n0_ n1_; (try clear hb); (try clear hb2); (try clear hk); (try clear hi); have hcz20_0 : w19.cell? ⟨gb178, 0, none⟩ = some (.string a0_0) := (blk_cell BK178.out 0).trans rfl; have hcz20_1 : w19.cell? ⟨gb178, 1, none⟩ = some (.string a0_1) := (blk_cell BK178.out 1).trans rfl; have hfz20_0 := blk_frozen BK178.out 0; have hfz20_1 := blk_frozen BK178.out 1; have p12 : 0 ≤ (0 : Int) := (by omega); have q12 : 0 < a0_0.size := (by have : (0 : Int) < (a0_0.size : Int) := of_decide_eq_true (by first | (with_reducible assumption) | assumption); omega); have hx12 : ∀ h : 0 < a0_0.size, ((a0_0[0]'h).toNat : Int) = bt a0_0 0 := bt_at a0_0 0; clear p12; have qi12 : (0 < (a0_0.size : Int)) = True := eq_true (of_decide_eq_true (by first | (with_reducible assumption) | assumption)); replace q12 := eq_true q12) | (go_at_call 78; (with_reducible refine (impl_trimmed.calls a0_1 t180 _ A17.out).mono ?_); rintro e w' ⟨rfl, ⟨nd, rfl⟩⟩))
              go_ret
              exact ⟨by first | rfl | (simp [errW_none, errW_some] <;> rfl) | (simp [*, errW_none, errW_some] <;> rfl), by repeat (first | (with_reducible first | exact HB.out | apply below_alloc | apply pw_below_drewN | apply below_drew1 | refine below_set ?_ GE178.out) | exact HB.out)⟩
          · rw [if_neg c11] at H
            exact absurd H (by simp)
        · replace c10 := Bool.eq_false_iff.mpr c10
          subst c10
          have H1 : (some false) = some r := by rw [if_neg (show ¬ (false = true) by decide)] at H; exact H
          clear H
          have H := H1
          clear H1
          obtain rfl := Option.some.inj H
          have hcz21_0 : wc.cell? ⟨gb178, 0, none⟩ = some (.string a0_0) := (blk_cell BK178.out 0).trans rfl
          have hcz21_1 : wc.cell? ⟨gb178, 1, none⟩ = some (.string a0_1) := (blk_cell BK178.out 1).trans rfl
          have hfz21_0 := blk_frozen BK178.out 0
          have hfz21_1 := blk_frozen BK178.out 1
          go_wp2_with (first | ((with_reducible refine gate_callee (f := 116) rfl ?_); refine goesL_ (some 11) rfl rfl Tryd.func116 (by kernel_rfl) rfl #[.agg #[.string a0_0, .string a0_1]] rfl (by (try simp only [List.map_toArray, List.map_cons, List.map_nil]); first | done | rfl | (simp only [List.length_drop, List.length_take]; rfl)) ?_; (with_reducible refine (impl_fieldOK.calls kj1 a0_0 a0_1 false _ A9.out).mono ?_); rintro e w22 ⟨rfl, hb⟩; refine ⟨_, rfl, ?_⟩; have n0_ := Aside0.mk (blk_below (g := gb178) (o := .cells #[.string a0_0, .string a0_1] 78 (0, 0)) (by (with_reducible repeat (first | refine blk_drewN ?_ _ | refine blk_drew ?_ | refine blk_alloc ?_ _)); exact BK178.out) hb); have n1_ := Aside0.mk (below_step (by repeat (first | (with_reducible first | exact HB.out | apply below_alloc | apply pw_below_drewN | apply below_drew1 | refine below_set ?_ GE178.out) | exact HB.out)) hb); clear BK178; clear HB; have BK178 := n0_; have HB := n1_; clear n0_ n1_; (try clear hb); (try clear hb2); (try clear hk); (try clear hi)))
          go_ret
          exact ⟨by first | rfl | (simp [errW_none, errW_some] <;> rfl) | (simp [*, errW_none, errW_some] <;> rfl), by repeat (first | (with_reducible first | exact HB.out | apply below_alloc | apply pw_below_drewN | apply below_drew1 | refine below_set ?_ GE178.out) | exact HB.out)⟩

/-! ### impl_fieldsOK: function 80 -/
def impl_fieldsOK.idx (k : Nat) : List (S78) → Nat → Option Int
  | [], _ => some (-1)
  | f :: r, i => (impl_plainOK.f k f.f0 f.f1).bind fun b => if b = true then impl_fieldsOK.idx k r (i + 1) else some (i : Int)
def impl_fieldsOK.f (k : Nat) (l0 : List (S78)) : Option Bool :=
  if l0.length > 60 then some false else (impl_fieldsOK.idx k l0 0).bind fun j => if j ≥ 0 then some false else (impl_LengthOf.f k l0).bind fun g => some (g.2 == 0)
theorem impl_fieldsOK.mono_idx : ∀ k l i, LeO (impl_fieldsOK.idx k l i) (impl_fieldsOK.idx (k + 1) l i) := by
  intro k l
  induction l with
  | nil => intro i; exact LeO.refl _
  | cons x l ih => intro i; exact LeO.bind (impl_plainOK.mono _ _ _) (fun _ => LeO.ite (ih _) (LeO.refl _))
theorem impl_fieldsOK.mono : ∀ a0 k, LeO (impl_fieldsOK.f k a0) (impl_fieldsOK.f (k + 1) a0) := by
  intro a0 k
  unfold impl_fieldsOK.f
  exact LeO.ite (LeO.refl _) (LeO.bind (impl_fieldsOK.mono_idx _ _ _) (fun _ => LeO.ite (LeO.refl _) (LeO.bind (impl_LengthOf.mono _ _) (fun _ => LeO.refl _))))
set_option maxHeartbeats 1000000 in
set_option maxRecDepth 100000 in
/-- The function inside: not a plain field. -/
theorem impl_fieldsOK.neg (k : Nat) (a0 : ByteArray) (a1 : ByteArray) (r : Bool) (w : World) (h : impl_plainOK.f k a0 a1 = some r) :
    Calls Tryd.prog 99 #[.agg #[.string a0, .string a1]] w fun e w' => e = .returned (.bool (!r)) ∧ Below w.heap.size w w' := by
  have hu78 := Tryd.underlying78
  have HB := Aside0.mk (Below.refl w.heap.size w)
  have HP := Aside0.mk h
  clear h
  go_enter Tryd.func99, Tryd.ntmps99
  go_wp2_with (first
    | ((with_reducible refine gate_dst (N := 1) rfl ?_); refine box_event ?hg (N := 1) ?hd (cs := #[.string a0, .string a1]) (t := 78) ?hr ?_; (case hd => rfl); (case hg => rfl); (case hr => first | (go_simp; done) | (go_simp; rfl)); intro gb1 hg w3 hbox hb; have n0_ := Aside0.mk (below_step HB.out hb); have n1_ := Aside0.mk hbox; clear HB; have HB := n0_; have BK1 := n1_; clear n0_ n1_; clear hb hbox hg; have hcz4_0 : w3.cell? ⟨gb1, 0, none⟩ = some (.string a0) := (blk_cell BK1.out 0).trans rfl; have hcz4_1 : w3.cell? ⟨gb1, 1, none⟩ = some (.string a1) := (blk_cell BK1.out 1).trans rfl)
    | (go_at_call 100; (with_reducible refine (impl_plainOK.calls k a0 a1 r _ HP.out).mono ?_); rintro e w4 ⟨rfl, hb4⟩; have n0_ := Aside0.mk (below_step HB.out hb4); clear HB hb4; have HB := n0_; clear n0_))
  go_ret
  exact ⟨rfl, HB.out⟩
set_option maxHeartbeats 1000000 in
set_option maxRecDepth 100000 in
/-- slices.IndexFunc with that function. -/
theorem impl_fieldsOK.index (k : Nat) (A : Option Addr) (c : Nat) (l : List (S78)) (r : Int) (w : World) (hl : l.length ≤ 60) (hr : Kd.C k78 w A l.length l) (h : impl_fieldsOK.idx k l 0 = some r) :
    Calls Tryd.prog 115 #[.slice A l.length c, .func (.func 99) #[] #[]] w fun e w' => e = .returned (.int .i64 r) ∧ Below w.heap.size w w' := by
  have HR := Aside0.mk hr
  have H' := Aside0.mk h
  have HB := Aside0.mk (Below.refl w.heap.size w)
  clear hr h
  go_enter Tryd.func115, Tryd.ntmps115
  go_wp2
  go_loopg [5, 8] l.length (fun kq v5 v8 w' => ∃ (i : Nat), v8 = .int .i64 (i : Int) ∧ Aside0 (i + kq = l.length) ∧ Aside0 (impl_fieldsOK.idx k (l.drop i) i = some r) ∧ Aside0 (Below w.heap.size w w'))
  case atStart => exact ⟨0, rfl, ⟨by omega⟩, H', HB⟩
  case round =>
    clear H' HB
    obtain ⟨i, rfl, HI, HA, HB⟩ := hrel
    have H := HA.out
    clear HA
    by_cases hlt : i < l.length
    · rw [List.drop_eq_getElem_cons hlt, show l[i] = rd_T78 l (i : Int) from by simp [rd_T78, List.getD_eq_getElem?_getD, hlt]] at H
      replace H := Option.bind_eq_some_iff.mp H
      obtain ⟨b, A100, H⟩ := H
      have A10 := Aside0.mk A100
      clear A100
      have hi60 : (i : Int) < 60 := by omega
      have c3b0 : decide ((i : Int) < (l.length : Int)) = true := decide_eq_true (by omega)
      have c3b1 : decide (i < l.length) = true := decide_eq_true hlt
      obtain ⟨ad, ea, hx0, hx1⟩ := at_T78 HR.out (i : Int) (by omega) (by omega)
      cases ea
      simp only [Int.toNat_natCast] at hx0 hx1
      replace hx0 := (HB.out.cell (World.block_lt_of_cell? w _ hx0)).trans hx0
      replace hx1 := (HB.out.cell (World.block_lt_of_cell? w _ hx1)).trans hx1
      have HL := Aside0.mk hlt
      have c3b2 := eq_true hlt
      clear hlt
      cases b with
      | true =>
        have H2 := Aside0.mk (show impl_fieldsOK.idx k (l.drop (i + 1)) (i + 1) = some r from H)
        clear H
        go_wp2_with (first | (go_at_call 99; (with_reducible refine (impl_fieldsOK.neg k _ _ true _ A10.out).mono ?_); rintro e w4 ⟨rfl, hb4⟩; have n0_ := Aside0.mk (below_step HB.out hb4); clear HB hb4; have HB := n0_; clear n0_))
        go_roundg (l.length - (i + 1))
        case measure => have := HI.out; have := HL.out; omega
        case rel => exact ⟨i + 1, by first | rfl | go_num, ⟨by have := HL.out; omega⟩, H2, HB⟩
      | false =>
        have H2 := Aside0.mk (show some (i : Int) = some r from H)
        clear H
        go_wp2_with (first | (go_at_call 99; (with_reducible refine (impl_fieldsOK.neg k _ _ false _ A10.out).mono ?_); rintro e w4 ⟨rfl, hb4⟩; have n0_ := Aside0.mk (below_step HB.out hb4); clear HB hb4; have HB := n0_; clear n0_))
        go_ret
        obtain rfl := Option.some.inj H2.out
        exact ⟨rfl, HB.out⟩
    · have c3b0 : decide ((i : Int) < (l.length : Int)) = false := decide_eq_false (by omega)
      have c3b1 : decide (i < l.length) = false := decide_eq_false hlt
      rw [List.drop_of_length_le (by omega)] at H
      have H2 := Aside0.mk (show some (-1 : Int) = some r from H)
      clear H hlt
      go_wp2
      go_ret
      obtain rfl := Option.some.inj H2.out
      exact ⟨rfl, HB.out⟩
set_option maxHeartbeats 1000000 in
set_option maxRecDepth 100000 in
/-- slices.ContainsFunc with that function. -/
theorem impl_fieldsOK.any (k : Nat) (A : Option Addr) (c : Nat) (l : List (S78)) (r : Int) (w : World) (hl : l.length ≤ 60) (hr : Kd.C k78 w A l.length l) (h : impl_fieldsOK.idx k l 0 = some r) :
    Calls Tryd.prog 98 #[.slice A l.length c, .func (.func 99) #[] #[]] w fun e w' => e = .returned (.bool (decide (0 ≤ r))) ∧ Below w.heap.size w w' := by
  have HR := Aside0.mk hr
  have H' := Aside0.mk h
  clear hr h
  go_enter Tryd.func98, Tryd.ntmps98
  go_wp2_with (go_at_call 115; (with_reducible refine (impl_fieldsOK.index k A c l r _ hl HR.out H'.out).mono ?_); rintro e w4 ⟨rfl, hb4⟩; have HB := Aside0.mk hb4; clear hb4)
  go_ret
  exact ⟨rfl, HB.out⟩
set_option maxHeartbeats 1000000 in
set_option maxRecDepth 100000 in
theorem impl_fieldsOK.calls (k : Nat) (A0 : Option Addr) (c0 : Nat) (l0 : List (S78)) (r : Bool) (w : World) (hr0 : Kd.C k78 w A0 l0.length l0) (hc0 : l0.length ≤ c0) (h : impl_fieldsOK.f k l0 = some r) :
    Calls Tryd.prog 80 #[.slice A0 l0.length c0] w fun e w' => e = .returned (.bool r) ∧ Below w.heap.size w w' := by
  have HR := Aside0.mk hr0
  have HC := Aside0.mk hc0
  clear hr0 hc0
  unfold impl_fieldsOK.f at h
  by_cases c1 : l0.length > 60
  · rw [if_pos c1] at h
    obtain rfl := Option.some.inj h
    have c1b0 : decide (60 < (l0.length : Int)) = true := decide_eq_true (by omega)
    have c1b1 : decide (60 < l0.length) = true := decide_eq_true c1
    clear c1
    go_enter Tryd.func80, Tryd.ntmps80
    go_wp2
    go_ret
    exact ⟨rfl, Below.refl _ _⟩
  · rw [if_neg c1] at h
    have c1b0 : decide (60 < (l0.length : Int)) = false := decide_eq_false (by omega)
    have c1b1 : decide (60 < l0.length) = false := decide_eq_false c1
    have HL := Aside0.mk (show l0.length ≤ 60 by omega)
    clear c1
    replace h := Option.bind_eq_some_iff.mp h
    obtain ⟨j, hj, h⟩ := h
    have HJ := Aside0.mk hj
    clear hj
    by_cases c2 : j ≥ 0
    · rw [if_pos c2] at h
      obtain rfl := Option.some.inj h
      have c2b0 : decide (0 ≤ j) = true := decide_eq_true c2
      clear c2
      go_enter Tryd.func80, Tryd.ntmps80
      go_wp2_with (first | (go_at_call 98; (with_reducible refine (impl_fieldsOK.any k A0 c0 l0 j _ HL.out HR.out HJ.out).mono ?_); rintro e w4 ⟨rfl, hb4⟩; have HB := Aside0.mk hb4; clear hb4))
      go_ret
      exact ⟨rfl, HB.out⟩
    · rw [if_neg c2] at h
      have c2b0 : decide (0 ≤ j) = false := decide_eq_false c2
      clear c2
      replace h := Option.bind_eq_some_iff.mp h
      obtain ⟨⟨g1, g2⟩, hg, h⟩ := h
      have HG := Aside0.mk hg
      clear hg
      have HE := Aside0.mk (show (g2 == 0) = r from Option.some.inj h)
      clear h
      go_enter Tryd.func80, Tryd.ntmps80
      go_wp2_with (first
        | (go_at_call 98; (with_reducible refine (impl_fieldsOK.any k A0 c0 l0 j _ HL.out HR.out HJ.out).mono ?_); rintro e w4 ⟨rfl, hb4⟩; have HB := Aside0.mk hb4; clear hb4)
        | (go_at_call 19; (with_reducible refine (impl_LengthOf.calls k A0 c0 l0 g1 g2 _ (Kd.C_below HR.out HB.out) HC.out HG.out).mono ?_); rintro e w5 ⟨rfl, hb5⟩; have n0_ := Aside0.mk (below_step HB.out hb5); clear HB hb5; have HB := n0_; clear n0_))
      go_ret
      rw [← HE.out]
      exact ⟨rfl, HB.out⟩

/-! ### impl_responseOK: function 60 -/
def impl_responseOK.f (k : Nat) (a0_0 : Int) (l0_1 : List (S78)) : Option (Bool) := if a0_0 ≥ 100 then (if a0_0 ≤ 599 then ((impl_fieldsOK.f k l0_1).bind fun t182 => (some t182)) else (some false)) else (some false)
theorem impl_responseOK.mono : ∀ a0 a1 k, LeO (impl_responseOK.f k a0 a1) (impl_responseOK.f (k + 1) a0 a1) := by
  intro a0 a1 k
  unfold impl_responseOK.f
  repeat' first
      | (with_reducible exact impl_fieldsOK.mono _ _)
      | (with_reducible exact LeO.refl _)
      | (with_reducible exact LeO.none _)
      | (with_reducible refine LeO.ite ?_ ?_)
      | (with_reducible refine LeO.bind ?_ (fun _ => ?_))
      | exact impl_fieldsOK.mono _ _
      | exact LeO.none _
      | refine LeO.ite ?_ ?_
      | refine LeO.bind ?_ (fun _ => ?_)
set_option maxHeartbeats 8000000 in
set_option maxRecDepth 100000 in
theorem impl_responseOK.calls (k : Nat) (a0_0 : Int) (A0_1 : Option Addr) (c0_1 : Nat) (l0_1 : List (S78)) (r : Bool) (w : World) (hr0_1 : Kd.C k78 w A0_1 l0_1.length l0_1) (hc0_1 : l0_1.length ≤ c0_1) (h : impl_responseOK.f k a0_0 l0_1 = some r) :
    Calls Tryd.prog 60 #[.agg #[.int .i64 a0_0, .slice A0_1 l0_1.length c0_1]] w fun e w' => e = .returned (.bool r) ∧ Below w.heap.size w w' := by
  have hu57 := Tryd.underlying57
  have HR0_1 := Aside0.mk hr0_1
  have HC0_1 := Aside0.mk hc0_1
  clear hr0_1 hc0_1
  have HB := Aside0.mk (Below.refl w.heap.size w)
  have H : (if a0_0 ≥ 100 then (if a0_0 ≤ 599 then ((impl_fieldsOK.f k l0_1).bind fun t182 => (some t182)) else (some false)) else (some false)) = some r := h
  clear h
  by_cases c2 : a0_0 ≥ 100
  · rw [if_pos c2] at H
    have c2b0 : decide (100 ≤ a0_0) = true := decide_eq_true c2
    clear c2
    by_cases c3 : a0_0 ≤ 599
    · rw [if_pos c3] at H
      have c3b0 : decide (a0_0 ≤ 599) = true := decide_eq_true c3
      clear c3
      replace H := Option.bind_eq_some_iff.mp H
      obtain ⟨t182, A40, H⟩ := H
      replace H : (some t182) = some r := H
      have A4 := Aside0.mk A40
      clear A40
      obtain rfl := Option.some.inj H
      go_enter Tryd.func60, Tryd.ntmps60
      go_wp2_with (first | ((with_reducible refine gate_dst (N := 1) rfl ?_); refine box_event ?hg (N := 1) ?hd (cs := #[.int .i64 a0_0, .slice A0_1 l0_1.length c0_1]) (t := 57) ?hr ?_; (case hd => rfl); (case hg => rfl); (case hr => first | (go_simp; done) | (go_simp; rfl)); intro gb181 hg w5 hbox hb; have n0_ := Aside0.mk (below_step (by repeat (first | (with_reducible first | exact HB.out | apply below_alloc | apply pw_below_drewN | apply below_drew1) | exact HB.out)) hb); have n1_ := Aside0.mk (hbox); have n2_ := Aside0.mk ((by rw [hg]; exact (below_size (by repeat (first | (with_reducible first | exact HB.out | apply below_alloc | apply pw_below_drewN | apply below_drew1) | exact HB.out))) : w.heap.size ≤ gb181)); have n3_ := Aside0.mk ((by rw [hg]; exact (below_size (by repeat (first | (with_reducible first | exact HB.out | apply below_alloc | apply pw_below_drewN | apply below_drew1) | exact HB.out))) : w.heap.size ≤ gb181)); clear HB; have HB := n0_; have BK181 := n1_; have GW181 := n2_; have GE181 := n3_; clear n0_ n1_ n2_ n3_; clear hb hbox hg; have hcz6_0 : w5.cell? ⟨gb181, 0, none⟩ = some (.int .i64 a0_0) := (blk_cell BK181.out 0).trans rfl; have hcz6_1 : w5.cell? ⟨gb181, 1, none⟩ = some (.slice A0_1 l0_1.length c0_1) := (blk_cell BK181.out 1).trans rfl; have hfz6_0 := blk_frozen BK181.out 0; have hfz6_1 := blk_frozen BK181.out 1) | (go_at_call 80; (with_reducible refine (impl_fieldsOK.calls k _ _ l0_1 t182 _ ?side1 ?side2 A4.out).mono ?_); (case side1 => repeat (first | exact (Kd.C_below HR0_1.out HB.out) | (with_reducible refine Kd.C_alloc ?_ _) | (with_reducible refine Kd.C_drewN ?_ _) | (with_reducible refine Kd.C_drew ?_))); (case side2 => exact HC0_1.out); rintro e w7 ⟨rfl, hb⟩; have n0_ := Aside0.mk (blk_below (g := gb181) (o := .cells #[.int .i64 a0_0, .slice A0_1 l0_1.length c0_1] 57 (0, 0)) (by (with_reducible repeat (first | refine blk_drewN ?_ _ | refine blk_drew ?_ | refine blk_alloc ?_ _)); exact BK181.out) hb); have n1_ := Aside0.mk (below_step (by repeat (first | (with_reducible first | exact HB.out | apply below_alloc | apply pw_below_drewN | apply below_drew1 | refine below_set ?_ GE181.out) | exact HB.out)) hb); clear BK181; clear HB; have BK181 := n0_; have HB := n1_; clear n0_ n1_; (try clear hb); (try clear hb2); (try clear hk); (try clear hi)))
      go_ret
      exact ⟨by first | rfl | (simp [errW_none, errW_some] <;> rfl) | (simp [*, errW_none, errW_some] <;> rfl), by repeat (first | (with_reducible first | exact HB.out | apply below_alloc | apply pw_below_drewN | apply below_drew1 | refine below_set ?_ GE181.out) | exact HB.out)⟩
    · rw [if_neg c3] at H
      have c3b0 : decide (a0_0 ≤ 599) = false := decide_eq_false c3
      clear c3
      obtain rfl := Option.some.inj H
      go_enter Tryd.func60, Tryd.ntmps60
      go_wp2_with (first | ((with_reducible refine gate_dst (N := 1) rfl ?_); refine box_event ?hg (N := 1) ?hd (cs := #[.int .i64 a0_0, .slice A0_1 l0_1.length c0_1]) (t := 57) ?hr ?_; (case hd => rfl); (case hg => rfl); (case hr => first | (go_simp; done) | (go_simp; rfl)); intro gb181 hg w8 hbox hb; have n0_ := Aside0.mk (below_step (by repeat (first | (with_reducible first | exact HB.out | apply below_alloc | apply pw_below_drewN | apply below_drew1) | exact HB.out)) hb); have n1_ := Aside0.mk (hbox); have n2_ := Aside0.mk ((by rw [hg]; exact (below_size (by repeat (first | (with_reducible first | exact HB.out | apply below_alloc | apply pw_below_drewN | apply below_drew1) | exact HB.out))) : w.heap.size ≤ gb181)); have n3_ := Aside0.mk ((by rw [hg]; exact (below_size (by repeat (first | (with_reducible first | exact HB.out | apply below_alloc | apply pw_below_drewN | apply below_drew1) | exact HB.out))) : w.heap.size ≤ gb181)); clear HB; have HB := n0_; have BK181 := n1_; have GW181 := n2_; have GE181 := n3_; clear n0_ n1_ n2_ n3_; clear hb hbox hg; have hcz9_0 : w8.cell? ⟨gb181, 0, none⟩ = some (.int .i64 a0_0) := (blk_cell BK181.out 0).trans rfl; have hcz9_1 : w8.cell? ⟨gb181, 1, none⟩ = some (.slice A0_1 l0_1.length c0_1) := (blk_cell BK181.out 1).trans rfl; have hfz9_0 := blk_frozen BK181.out 0; have hfz9_1 := blk_frozen BK181.out 1))
      go_ret
      exact ⟨by first | rfl | (simp [errW_none, errW_some] <;> rfl) | (simp [*, errW_none, errW_some] <;> rfl), by repeat (first | (with_reducible first | exact HB.out | apply below_alloc | apply pw_below_drewN | apply below_drew1 | refine below_set ?_ GE181.out) | exact HB.out)⟩
  · rw [if_neg c2] at H
    have c2b0 : decide (100 ≤ a0_0) = false := decide_eq_false c2
    clear c2
    obtain rfl := Option.some.inj H
    go_enter Tryd.func60, Tryd.ntmps60
    go_wp2_with (first | ((with_reducible refine gate_dst (N := 1) rfl ?_); refine box_event ?hg (N := 1) ?hd (cs := #[.int .i64 a0_0, .slice A0_1 l0_1.length c0_1]) (t := 57) ?hr ?_; (case hd => rfl); (case hg => rfl); (case hr => first | (go_simp; done) | (go_simp; rfl)); intro gb181 hg w10 hbox hb; have n0_ := Aside0.mk (below_step (by repeat (first | (with_reducible first | exact HB.out | apply below_alloc | apply pw_below_drewN | apply below_drew1) | exact HB.out)) hb); have n1_ := Aside0.mk (hbox); have n2_ := Aside0.mk ((by rw [hg]; exact (below_size (by repeat (first | (with_reducible first | exact HB.out | apply below_alloc | apply pw_below_drewN | apply below_drew1) | exact HB.out))) : w.heap.size ≤ gb181)); have n3_ := Aside0.mk ((by rw [hg]; exact (below_size (by repeat (first | (with_reducible first | exact HB.out | apply below_alloc | apply pw_below_drewN | apply below_drew1) | exact HB.out))) : w.heap.size ≤ gb181)); clear HB; have HB := n0_; have BK181 := n1_; have GW181 := n2_; have GE181 := n3_; clear n0_ n1_ n2_ n3_; clear hb hbox hg; have hcz11_0 : w10.cell? ⟨gb181, 0, none⟩ = some (.int .i64 a0_0) := (blk_cell BK181.out 0).trans rfl; have hcz11_1 : w10.cell? ⟨gb181, 1, none⟩ = some (.slice A0_1 l0_1.length c0_1) := (blk_cell BK181.out 1).trans rfl; have hfz11_0 := blk_frozen BK181.out 0; have hfz11_1 := blk_frozen BK181.out 1))
    go_ret
    exact ⟨by first | rfl | (simp [errW_none, errW_some] <;> rfl) | (simp [*, errW_none, errW_some] <;> rfl), by repeat (first | (with_reducible first | exact HB.out | apply below_alloc | apply pw_below_drewN | apply below_drew1 | refine below_set ?_ GE181.out) | exact HB.out)⟩

/-! ### impl_ResponseOf: function 39 -/
/-! the heads and the rest of a list of fields -/
open Go.Proofs.YtkcimmlaoipdkaaDoor.MapF in
noncomputable def psK : KeyT Tryd.prog 9 ByteArray := keyString Tryd.underlying9
open Go.Proofs.YtkcimmlaoipdkaaDoor.MapF in
noncomputable def psE : ElT Tryd.prog 9 ByteArray := elString Tryd.underlying9 (fun w => by kernel_rfl)
def lookF (hs : List (ByteArray × ByteArray)) (y : ByteArray) : Option ByteArray := (hs.find? (fun p => decide (p.1 = y))).map (·.2)
theorem lookF_snoc {hs : List (ByteArray × ByteArray)} {y u : ByteArray} (h : lookF hs y = none) : Go.Proofs.YtkcimmlaoipdkaaDoor.MapF.upd (lookF hs) y (some u) = lookF (hs ++ [(y, u)]) := by
  funext z
  by_cases e : z = y
  · subst e
    rw [Go.Proofs.YtkcimmlaoipdkaaDoor.MapF.upd_same]
    unfold lookF at h ⊢
    rw [List.find?_append]
    rw [Option.map_eq_none_iff] at h
    rw [h]
    simp
  · rw [Go.Proofs.YtkcimmlaoipdkaaDoor.MapF.upd_other _ _ e]
    unfold lookF
    rw [List.find?_append]
    cases hs.find? (fun p => decide (p.1 = z)) with
    | none => simp [Ne.symm e]
    | some p => simp
/-- Field by field: those whose name begins with a colon, ahead of the others; none: one stands twice, or too late. -/
def psGo : List (S78) → List (ByteArray × ByteArray) → List (S78) → Option (Option (List (ByteArray × ByteArray) × List (S78)))
  | [], hs, rs => some (some (hs, rs))
  | x :: l, hs, rs => if x.f0.size ≤ maxLen ∧ x.f1.size ≤ maxLen then ((strings_HasPrefix.f x.f0 (⟨#[58]⟩ : ByteArray)).bind fun b =>
      if b = false then psGo l hs (rs ++ [x]) else if (lookF hs x.f0).isSome = true then some none else if rs.length > 0 then some none else psGo l (hs ++ [(x.f0, x.f1)]) rs) else none
section
variable {α β γ : Type} {d : Kd α} {e k el : Nat} {K : Go.Proofs.YtkcimmlaoipdkaaDoor.MapF.KeyT Tryd.prog k β} {E : Go.Proofs.YtkcimmlaoipdkaaDoor.MapF.ElT Tryd.prog el γ} {w w' : World} {base b n c : Nat} {f : β → Option γ} {ok : Nat → Prop} {v : Value} {xs : List α}
theorem R_notMap (hR : d.R e w base ok v xs) (hM : Go.Proofs.YtkcimmlaoipdkaaDoor.MapF.MapF K E w b n f c) : d.R e w base (fun k => ok k ∧ k ≠ b) v xs :=
  Kd.R_mono (Kd.R_bound hR) (fun k hk => ⟨hk.1, by
    rintro rfl
    obtain ⟨D, ⟨es, clock, h0, _⟩, _⟩ := hM
    obtain ⟨_, _, _, q, _, cells, hc⟩ := hk
    rw [h0] at hc
    cases hc⟩)
theorem R_ofMap (hR : d.R e w base ok v xs) (hM : Go.Proofs.YtkcimmlaoipdkaaDoor.MapF.MapF K E w b n f c) (hg : w.grownBy w' (some b)) : d.R e w' base ok v xs :=
  Kd.R_mono (Kd.R_grown (R_notMap hR hM) hg (fun k hk he => hk.2 (by injection he))) (fun _ hk => hk.1)
theorem map_ofR (hR : d.R e w base ok v xs) (hM : Go.Proofs.YtkcimmlaoipdkaaDoor.MapF.MapF K E w b n f c) : some b ≠ v.ownBlock := fun he => ((R_notMap hR hM).1 b he.symm).2 rfl
end
def psPost (w w' : World) (e : Ending) : Option (List (ByteArray × ByteArray) × List (S78)) → Prop
  | none => e = .returned (.tuple #[.map none, .slice none 0 0, .bool false])
  | some (hs, rs) => ∃ v, e = .returned (.tuple #[.map (some w.heap.size), v, .bool true]) ∧ Go.Proofs.YtkcimmlaoipdkaaDoor.MapF.MapF psK psE w' w.heap.size 64 (lookF hs) hs.length ∧ Kd.R k78 78 w' w.heap.size (fun _ => True) v rs
set_option maxHeartbeats 2000000 in
set_option maxRecDepth 100000 in
theorem impl_pseudo.calls (A : Option Addr) (c : Nat) (l : List (S78)) (R : Option (List (ByteArray × ByteArray) × List (S78))) (w : World) (hl : l.length ≤ 64) (hr : Kd.C k78 w A l.length l) (h : psGo l [] [] = some R) :
    Calls Tryd.prog 57 #[.slice A l.length c] w fun e w' => psPost w w' e R ∧ Below w.heap.size w w' := by
  have hmm := @run_makeMap Tryd.prog
  have hu78 := Tryd.underlying78
  have HR := Aside0.mk hr
  have H' := Aside0.mk h
  have HM : Aside0 (Go.Proofs.YtkcimmlaoipdkaaDoor.MapF.MapF psK psE (w.alloc (.map #[] 0)) w.heap.size 0 (lookF []) 0) := ⟨Go.Proofs.YtkcimmlaoipdkaaDoor.MapF.MapF.made w⟩
  have HB : Aside0 (Below w.heap.size w (w.alloc (.map #[] 0))) := ⟨below_alloc (Below.refl _ _) _⟩
  clear hr h
  go_enter Tryd.func57, Tryd.ntmps57
  go_wp2_with (first
    | ((with_reducible refine gate_dst (N := 12) rfl ?_); refine Kd.R_lit k78 _ 78 ?hg (N := 12) ?hd (xs := ([] : List (S78))) (inner := []) (ok := fun _ => True) (okp := fun _ => True) ?hr ?hp (fun _ hk => hk) trivial (Below.refl _ _) (Nat.le_refl _) (by simp) ?_; (case hd => rfl); (case hg => rfl); (case hr => first | (go_simp; done) | (go_simp; rfl)); (case hp => exact (Reps.none _ _)); intro v12 w3 ho hb hg_ hnew_; clear hg_ hnew_; have HO := Aside0.mk (Kd.R_lower ho (below_size HB.out)); have n0_ := Aside0.mk (HM.out.below hb); have n1_ := Aside0.mk (below_step HB.out hb); clear HM HB; have HM := n0_; have HB := n1_; clear ho hb n0_ n1_))
  go_loopg [6, 15] l.length (fun kq v6 v15 w' => ∃ (i : Nat) (hs : List (ByteArray × ByteArray)) (rs : List (S78)), v15 = .int .i64 (i : Int) ∧ Aside0 (i + kq = l.length) ∧ Aside0 (psGo (l.drop i) hs rs = some R) ∧ Aside0 (Go.Proofs.YtkcimmlaoipdkaaDoor.MapF.MapF psK psE w' w.heap.size i (lookF hs) hs.length) ∧ Aside0 (Kd.R k78 78 w' w.heap.size (fun _ => True) v6 rs) ∧ Aside0 (rs.length ≤ i) ∧ Aside0 (Below w.heap.size w w'))
  case atStart => exact ⟨0, [], [], rfl, ⟨by omega⟩, H', HM, HO, ⟨by simp⟩, HB⟩
  case round =>
    clear H' HM HO HB
    obtain ⟨i, hs, rs, rfl, HI, HA, HM, HO, HL, HB⟩ := hrel
    have H := HA.out
    clear HA
    by_cases hlt : i < l.length
    · rw [List.drop_eq_getElem_cons hlt, show l[i] = rd_T78 l (i : Int) from by simp [rd_T78, List.getD_eq_getElem?_getD, hlt], psGo] at H
      by_cases hg : (rd_T78 l (i : Int)).f0.size ≤ maxLen ∧ (rd_T78 l (i : Int)).f1.size ≤ maxLen
      · rw [if_pos hg] at H
        have HG := Aside0.mk hg
        clear hg
        replace H := Option.bind_eq_some_iff.mp H
        obtain ⟨b, A100, H⟩ := H
        have A10 := Aside0.mk A100
        clear A100
        have hi60 : (i : Int) < 64 := by omega
        have c3b0 : decide ((i : Int) < (l.length : Int)) = true := decide_eq_true (by omega)
        have c3b1 : decide (i < l.length) = true := decide_eq_true hlt
        obtain ⟨ad, ea, hx0, hx1⟩ := at_T78 HR.out (i : Int) (by omega) (by omega)
        cases ea
        simp only [Int.toNat_natCast] at hx0 hx1
        replace hx0 := (HB.out.cell (World.block_lt_of_cell? w _ hx0)).trans hx0
        replace hx1 := (HB.out.cell (World.block_lt_of_cell? w _ hx1)).trans hx1
        have c3b2 := eq_true hlt
        have HLT := Aside0.mk hlt
        clear hlt
        obtain ⟨Ao, co, eo⟩ := Kd.R_slice HO.out
        subst eo
        generalize hX : rd_T78 l (i : Int) = X at *
        have HX := Aside0.mk hX
        clear hX
        obtain ⟨x0, x1⟩ := X
        simp only at hx0 hx1 A10 HG H
        have HI6 := Aside0.mk hi60
        have HX2 : Aside0 (rs.length ≤ i) := HL
        cases b with
        | false =>
          have H2 : Aside0 (psGo (l.drop (i + 1)) hs (rs ++ [⟨x0, x1⟩]) = some R) := ⟨by simpa using H⟩
          clear H
          · go_wp2_with (first
                | ((with_reducible refine gate_dst (N := 8) rfl ?_); refine box_event ?hg (N := 8) ?hd (cs := #[.string (⟨#[]⟩ : ByteArray), .string (⟨#[]⟩ : ByteArray)]) (t := 78) ?hr ?_; (case hd => rfl); (case hg => rfl); (case hr => first | (go_simp; done) | (go_simp; rfl)); intro gb hg w3 hbox hb; have hne := (show w.heap.size ≠ gb from by rw [hg]; exact Nat.ne_of_lt HM.out.lt); have n0_ := Aside0.mk (HM.out.below hb); have n1_ := Aside0.mk (below_step HB.out hb); have n2_ := Aside0.mk (Kd.R_below (Kd.R_elderB HO.out gb (by rw [hg]; exact Nat.le_refl _)) hb); have n3_ := Aside0.mk hbox; have n4_ := Aside0.mk (show w.heap.size ≤ gb from by rw [hg]; exact below_size HB.out); clear HM HB HO; have HM := n0_; have HB := n1_; have HO := n2_; have BK := n3_; have GE := n4_; have HNE := Aside0.mk hne; clear hb hbox hg hne n0_ n1_ n2_ n3_ n4_; have hcz0 : w3.cell? ⟨gb, 0, none⟩ = some (.string (⟨#[]⟩ : ByteArray)) := (blk_cell BK.out 0).trans rfl; have hcz1 : w3.cell? ⟨gb, 1, none⟩ = some (.string (⟨#[]⟩ : ByteArray)) := (blk_cell BK.out 1).trans rfl; have hfz0 := blk_frozen BK.out 0; have hfz1 := blk_frozen BK.out 1)
                | (go_at_call 81; (with_reducible refine (strings_HasPrefix.calls x0 (⟨#[58]⟩ : ByteArray) false _ A10.out).mono ?_); rintro e w' ⟨rfl, ⟨nd, rfl⟩⟩; obtain ⟨W4, hW4⟩ : ∃ W4 : World, W4 = ((w3.setCell ⟨gb, 0, none⟩ (.string x0)).setCell ⟨gb, 1, none⟩ (.string x1)).drewN nd := ⟨_, rfl⟩; rw [← hW4]; have n0_ : Aside0 (Go.Proofs.YtkcimmlaoipdkaaDoor.MapF.MapF psK psE W4 w.heap.size i (lookF hs) hs.length) := ⟨by rw [hW4]; exact ((HM.out.setCell HNE.out _).setCell HNE.out _).drewN _⟩; have n1_ : Aside0 (Below w.heap.size w W4) := ⟨by rw [hW4]; exact pw_below_drewN (below_set (below_set HB.out GE.out) GE.out) _⟩; have n2_ : Aside0 (Kd.R k78 78 W4 w.heap.size (fun k => True ∧ k ≠ gb) (.slice Ao rs.length co) rs) := ⟨by rw [hW4]; exact Kd.R_drewN (Kd.R_far (Kd.R_far HO.out (fun _ hk => hk.2) _) (fun _ hk => hk.2) _) _⟩; have n3_ : Aside0 (W4.heap[gb]? = some (.cells #[.string x0, .string x1] 78 (0, 0))) := ⟨by rw [hW4]; exact blk_drewN (blk_put (cs := #[.string x0, .string (⟨#[]⟩ : ByteArray)]) (blk_put BK.out 0 _ rfl) 1 _ rfl) _⟩; clear hcz0 hcz1 hfz0 hfz1 HM HB HO BK hW4; have HM := n0_; have HB := n1_; have HO := n2_; have BK := n3_; clear n0_ n1_ n2_ n3_; have hd0 : W4.cell? ⟨gb, 0, none⟩ = some (.string x0) := (blk_cell BK.out 0).trans rfl; have hd1 : W4.cell? ⟨gb, 1, none⟩ = some (.string x1) := (blk_cell BK.out 1).trans rfl)
                | ((with_reducible refine gate_builtin (b := .append) (xs := #[.tmp 23, .tmp 25]) rfl ?_); at_builtin; refine Kd.R_append k78 (w0 := w) w.heap.size rfl (.tmp 23) (.tmp 25) 34 78 (.agg #[(.string ⟨#[]⟩), (.string ⟨#[]⟩)]) 32 rfl Tryd.underlying34 info78 rfl (by decide) (by omega) _ rs (⟨x0, x1⟩ : S78) [.string x0, .string x1] (fun k => True ∧ k ≠ gb) (fun _ => False) rfl rfl ?aP (fun _ hk => hk.elim) ?aF ?aO ?aB ?aS ?aL ?_; (case aP => exact k78_mkM _ _ _ (⟨x0, x1⟩ : S78)); (case aB => exact HB.out); (case aF => exact (fun k hk => ⟨trivial, by have := blk_lt BK.out; omega⟩)); (case aO => exact HO.out); (case aS => exact below_size HB.out); (case aL => have := HL.out; omega); intro v1 w5 ho hb hg hat; have n0_ := Aside0.mk (HM.out.kept hg (map_ofR HO.out HM.out)); have n1_ := Aside0.mk hb; have n2_ := Aside0.mk ho; clear HM HB HO; have HM := n0_; have HB := n1_; have HO := n2_; clear n0_ n1_ n2_ ho hb hg hat hd0 hd1))
            go_roundg (l.length - (i + 1))
            case measure => have := HI.out; have := HLT.out; omega
            case rel => exact ⟨i + 1, hs, (rs ++ [⟨x0, x1⟩]), by first | rfl | go_num, ⟨by have := HLT.out; omega⟩, H2, ⟨HM.out.mono (Nat.le_succ _)⟩, ⟨Kd.R_mono HO.out (fun _ _ => trivial)⟩, ⟨by have := HX2.out; simp; omega⟩, HB⟩
        | true =>
          rw [if_neg (by decide)] at H
          cases hlk : lookF hs x0 with
          | some u =>
            rw [hlk] at H
            simp only [Option.isSome_some, if_true] at H
            have H2 := Aside0.mk (Option.some.inj H)
            have HLK := Aside0.mk hlk
            clear H hlk
            · go_wp2_with (first
                | ((with_reducible refine gate_dst (N := 8) rfl ?_); refine box_event ?hg (N := 8) ?hd (cs := #[.string (⟨#[]⟩ : ByteArray), .string (⟨#[]⟩ : ByteArray)]) (t := 78) ?hr ?_; (case hd => rfl); (case hg => rfl); (case hr => first | (go_simp; done) | (go_simp; rfl)); intro gb hg w3 hbox hb; have hne := (show w.heap.size ≠ gb from by rw [hg]; exact Nat.ne_of_lt HM.out.lt); have n0_ := Aside0.mk (HM.out.below hb); have n1_ := Aside0.mk (below_step HB.out hb); have n2_ := Aside0.mk (Kd.R_below (Kd.R_elderB HO.out gb (by rw [hg]; exact Nat.le_refl _)) hb); have n3_ := Aside0.mk hbox; have n4_ := Aside0.mk (show w.heap.size ≤ gb from by rw [hg]; exact below_size HB.out); clear HM HB HO; have HM := n0_; have HB := n1_; have HO := n2_; have BK := n3_; have GE := n4_; have HNE := Aside0.mk hne; clear hb hbox hg hne n0_ n1_ n2_ n3_ n4_; have hcz0 : w3.cell? ⟨gb, 0, none⟩ = some (.string (⟨#[]⟩ : ByteArray)) := (blk_cell BK.out 0).trans rfl; have hcz1 : w3.cell? ⟨gb, 1, none⟩ = some (.string (⟨#[]⟩ : ByteArray)) := (blk_cell BK.out 1).trans rfl; have hfz0 := blk_frozen BK.out 0; have hfz1 := blk_frozen BK.out 1)
                | (go_at_call 81; (with_reducible refine (strings_HasPrefix.calls x0 (⟨#[58]⟩ : ByteArray) true _ A10.out).mono ?_); rintro e w' ⟨rfl, ⟨nd, rfl⟩⟩; obtain ⟨W4, hW4⟩ : ∃ W4 : World, W4 = ((w3.setCell ⟨gb, 0, none⟩ (.string x0)).setCell ⟨gb, 1, none⟩ (.string x1)).drewN nd := ⟨_, rfl⟩; rw [← hW4]; have n0_ : Aside0 (Go.Proofs.YtkcimmlaoipdkaaDoor.MapF.MapF psK psE W4 w.heap.size i (lookF hs) hs.length) := ⟨by rw [hW4]; exact ((HM.out.setCell HNE.out _).setCell HNE.out _).drewN _⟩; have n1_ : Aside0 (Below w.heap.size w W4) := ⟨by rw [hW4]; exact pw_below_drewN (below_set (below_set HB.out GE.out) GE.out) _⟩; have n2_ : Aside0 (Kd.R k78 78 W4 w.heap.size (fun k => True ∧ k ≠ gb) (.slice Ao rs.length co) rs) := ⟨by rw [hW4]; exact Kd.R_drewN (Kd.R_far (Kd.R_far HO.out (fun _ hk => hk.2) _) (fun _ hk => hk.2) _) _⟩; have n3_ : Aside0 (W4.heap[gb]? = some (.cells #[.string x0, .string x1] 78 (0, 0))) := ⟨by rw [hW4]; exact blk_drewN (blk_put (cs := #[.string x0, .string (⟨#[]⟩ : ByteArray)]) (blk_put BK.out 0 _ rfl) 1 _ rfl) _⟩; clear hcz0 hcz1 hfz0 hfz1 HM HB HO BK hW4; have HM := n0_; have HB := n1_; have HO := n2_; have BK := n3_; clear n0_ n1_ n2_ n3_; have hd0 : W4.cell? ⟨gb, 0, none⟩ = some (.string x0) := (blk_cell BK.out 0).trans rfl; have hd1 : W4.cell? ⟨gb, 1, none⟩ = some (.string x1) := (blk_cell BK.out 1).trans rfl)
                | (at_lookup; refine Go.Proofs.YtkcimmlaoipdkaaDoor.MapF.wp_look_ok W4 rfl (.tmp 28) (.tmp 30) 88 rfl Tryd.underlying88 HM.out rfl x0 rfl HG.out.1 ?_; rw [HLK.out]; change wpList _ _ _ _ (Act.put _ _ (.tuple #[.string u, .bool true])) _))
              go_ret3
              refine ⟨?_, HB.out⟩
              rw [← H2.out]
              rfl
          | none =>
            rw [hlk, if_neg (by decide)] at H
            have HLK := Aside0.mk hlk
            clear hlk
            by_cases hrs : rs.length > 0
            · rw [if_pos hrs] at H
              have H2 := Aside0.mk (Option.some.inj H)
              have c4b0 : decide (0 < (rs.length : Int)) = true := decide_eq_true (by omega)
              have c4b1 : decide (0 < rs.length) = true := decide_eq_true hrs
              clear H hrs
              go_wp2_with (first
                | ((with_reducible refine gate_dst (N := 8) rfl ?_); refine box_event ?hg (N := 8) ?hd (cs := #[.string (⟨#[]⟩ : ByteArray), .string (⟨#[]⟩ : ByteArray)]) (t := 78) ?hr ?_; (case hd => rfl); (case hg => rfl); (case hr => first | (go_simp; done) | (go_simp; rfl)); intro gb hg w3 hbox hb; have hne := (show w.heap.size ≠ gb from by rw [hg]; exact Nat.ne_of_lt HM.out.lt); have n0_ := Aside0.mk (HM.out.below hb); have n1_ := Aside0.mk (below_step HB.out hb); have n2_ := Aside0.mk (Kd.R_below (Kd.R_elderB HO.out gb (by rw [hg]; exact Nat.le_refl _)) hb); have n3_ := Aside0.mk hbox; have n4_ := Aside0.mk (show w.heap.size ≤ gb from by rw [hg]; exact below_size HB.out); clear HM HB HO; have HM := n0_; have HB := n1_; have HO := n2_; have BK := n3_; have GE := n4_; have HNE := Aside0.mk hne; clear hb hbox hg hne n0_ n1_ n2_ n3_ n4_; have hcz0 : w3.cell? ⟨gb, 0, none⟩ = some (.string (⟨#[]⟩ : ByteArray)) := (blk_cell BK.out 0).trans rfl; have hcz1 : w3.cell? ⟨gb, 1, none⟩ = some (.string (⟨#[]⟩ : ByteArray)) := (blk_cell BK.out 1).trans rfl; have hfz0 := blk_frozen BK.out 0; have hfz1 := blk_frozen BK.out 1)
                | (go_at_call 81; (with_reducible refine (strings_HasPrefix.calls x0 (⟨#[58]⟩ : ByteArray) true _ A10.out).mono ?_); rintro e w' ⟨rfl, ⟨nd, rfl⟩⟩; obtain ⟨W4, hW4⟩ : ∃ W4 : World, W4 = ((w3.setCell ⟨gb, 0, none⟩ (.string x0)).setCell ⟨gb, 1, none⟩ (.string x1)).drewN nd := ⟨_, rfl⟩; rw [← hW4]; have n0_ : Aside0 (Go.Proofs.YtkcimmlaoipdkaaDoor.MapF.MapF psK psE W4 w.heap.size i (lookF hs) hs.length) := ⟨by rw [hW4]; exact ((HM.out.setCell HNE.out _).setCell HNE.out _).drewN _⟩; have n1_ : Aside0 (Below w.heap.size w W4) := ⟨by rw [hW4]; exact pw_below_drewN (below_set (below_set HB.out GE.out) GE.out) _⟩; have n2_ : Aside0 (Kd.R k78 78 W4 w.heap.size (fun k => True ∧ k ≠ gb) (.slice Ao rs.length co) rs) := ⟨by rw [hW4]; exact Kd.R_drewN (Kd.R_far (Kd.R_far HO.out (fun _ hk => hk.2) _) (fun _ hk => hk.2) _) _⟩; have n3_ : Aside0 (W4.heap[gb]? = some (.cells #[.string x0, .string x1] 78 (0, 0))) := ⟨by rw [hW4]; exact blk_drewN (blk_put (cs := #[.string x0, .string (⟨#[]⟩ : ByteArray)]) (blk_put BK.out 0 _ rfl) 1 _ rfl) _⟩; clear hcz0 hcz1 hfz0 hfz1 HM HB HO BK hW4; have HM := n0_; have HB := n1_; have HO := n2_; have BK := n3_; clear n0_ n1_ n2_ n3_; have hd0 : W4.cell? ⟨gb, 0, none⟩ = some (.string x0) := (blk_cell BK.out 0).trans rfl; have hd1 : W4.cell? ⟨gb, 1, none⟩ = some (.string x1) := (blk_cell BK.out 1).trans rfl)
                | (at_lookup; refine Go.Proofs.YtkcimmlaoipdkaaDoor.MapF.wp_look_ok W4 rfl (.tmp 28) (.tmp 30) 88 rfl Tryd.underlying88 HM.out rfl x0 rfl HG.out.1 ?_; rw [HLK.out]; change wpList _ _ _ _ (Act.put _ _ (.tuple #[.string ⟨#[]⟩, .bool false])) _))
              go_ret3
              refine ⟨?_, HB.out⟩
              rw [← H2.out]
              rfl
            · rw [if_neg hrs] at H
              have H2 := Aside0.mk H
              have c4b0 : decide (0 < (rs.length : Int)) = false := decide_eq_false (by omega)
              have c4b1 : decide (0 < rs.length) = false := decide_eq_false hrs
              clear H hrs
              go_wp2_with (first
                | ((with_reducible refine gate_dst (N := 8) rfl ?_); refine box_event ?hg (N := 8) ?hd (cs := #[.string (⟨#[]⟩ : ByteArray), .string (⟨#[]⟩ : ByteArray)]) (t := 78) ?hr ?_; (case hd => rfl); (case hg => rfl); (case hr => first | (go_simp; done) | (go_simp; rfl)); intro gb hg w3 hbox hb; have hne := (show w.heap.size ≠ gb from by rw [hg]; exact Nat.ne_of_lt HM.out.lt); have n0_ := Aside0.mk (HM.out.below hb); have n1_ := Aside0.mk (below_step HB.out hb); have n2_ := Aside0.mk (Kd.R_below (Kd.R_elderB HO.out gb (by rw [hg]; exact Nat.le_refl _)) hb); have n3_ := Aside0.mk hbox; have n4_ := Aside0.mk (show w.heap.size ≤ gb from by rw [hg]; exact below_size HB.out); clear HM HB HO; have HM := n0_; have HB := n1_; have HO := n2_; have BK := n3_; have GE := n4_; have HNE := Aside0.mk hne; clear hb hbox hg hne n0_ n1_ n2_ n3_ n4_; have hcz0 : w3.cell? ⟨gb, 0, none⟩ = some (.string (⟨#[]⟩ : ByteArray)) := (blk_cell BK.out 0).trans rfl; have hcz1 : w3.cell? ⟨gb, 1, none⟩ = some (.string (⟨#[]⟩ : ByteArray)) := (blk_cell BK.out 1).trans rfl; have hfz0 := blk_frozen BK.out 0; have hfz1 := blk_frozen BK.out 1)
                | (go_at_call 81; (with_reducible refine (strings_HasPrefix.calls x0 (⟨#[58]⟩ : ByteArray) true _ A10.out).mono ?_); rintro e w' ⟨rfl, ⟨nd, rfl⟩⟩; obtain ⟨W4, hW4⟩ : ∃ W4 : World, W4 = ((w3.setCell ⟨gb, 0, none⟩ (.string x0)).setCell ⟨gb, 1, none⟩ (.string x1)).drewN nd := ⟨_, rfl⟩; rw [← hW4]; have n0_ : Aside0 (Go.Proofs.YtkcimmlaoipdkaaDoor.MapF.MapF psK psE W4 w.heap.size i (lookF hs) hs.length) := ⟨by rw [hW4]; exact ((HM.out.setCell HNE.out _).setCell HNE.out _).drewN _⟩; have n1_ : Aside0 (Below w.heap.size w W4) := ⟨by rw [hW4]; exact pw_below_drewN (below_set (below_set HB.out GE.out) GE.out) _⟩; have n2_ : Aside0 (Kd.R k78 78 W4 w.heap.size (fun k => True ∧ k ≠ gb) (.slice Ao rs.length co) rs) := ⟨by rw [hW4]; exact Kd.R_drewN (Kd.R_far (Kd.R_far HO.out (fun _ hk => hk.2) _) (fun _ hk => hk.2) _) _⟩; have n3_ : Aside0 (W4.heap[gb]? = some (.cells #[.string x0, .string x1] 78 (0, 0))) := ⟨by rw [hW4]; exact blk_drewN (blk_put (cs := #[.string x0, .string (⟨#[]⟩ : ByteArray)]) (blk_put BK.out 0 _ rfl) 1 _ rfl) _⟩; clear hcz0 hcz1 hfz0 hfz1 HM HB HO BK hW4; have HM := n0_; have HB := n1_; have HO := n2_; have BK := n3_; clear n0_ n1_ n2_ n3_; have hd0 : W4.cell? ⟨gb, 0, none⟩ = some (.string x0) := (blk_cell BK.out 0).trans rfl; have hd1 : W4.cell? ⟨gb, 1, none⟩ = some (.string x1) := (blk_cell BK.out 1).trans rfl)
                | (at_lookup; refine Go.Proofs.YtkcimmlaoipdkaaDoor.MapF.wp_look_ok W4 rfl (.tmp 28) (.tmp 30) 88 rfl Tryd.underlying88 HM.out rfl x0 rfl HG.out.1 ?_; rw [HLK.out]; change wpList _ _ _ _ (Act.put _ _ (.tuple #[.string ⟨#[]⟩, .bool false])) _)
                | (at_mapUpdate; refine Go.Proofs.YtkcimmlaoipdkaaDoor.MapF.wp_put W4 rfl (.tmp 40) (.tmp 42) (.tmp 44) 88 rfl Tryd.underlying88 HM.out (by have := HI6.out; unfold maxLen; omega) rfl x0 x1 rfl rfl HG.out.1 HG.out.2 ?_; intro w9 hM9 hg9; rw [HLK.out, lookF_snoc HLK.out] at hM9; have n0_ := Aside0.mk hM9; have n1_ := Aside0.mk (HB.out.grown hg9 (below_size HB.out) (fun j hj => by cases hj; exact Nat.le_refl _)); have n2_ := Aside0.mk (R_ofMap HO.out HM.out hg9); clear HM HB HO; have HM := n0_; have HB := n1_; have HO := n2_; clear n0_ n1_ n2_ hM9 hg9 hd0 hd1))
              go_roundg (l.length - (i + 1))
              case measure => have := HI.out; have := HLT.out; omega
              case rel => exact ⟨i + 1, (hs ++ [(x0, x1)]), rs, by first | rfl | go_num, ⟨by have := HLT.out; omega⟩, H2, ⟨by simpa using HM.out⟩, ⟨Kd.R_mono HO.out (fun _ _ => trivial)⟩, ⟨by have := HX2.out; omega⟩, HB⟩
      · rw [if_neg hg] at H
        exact absurd H (by simp)
    · have c3b0 : decide ((i : Int) < (l.length : Int)) = false := decide_eq_false (by omega)
      have c3b1 : decide (i < l.length) = false := decide_eq_false hlt
      rw [List.drop_of_length_le (by omega), psGo] at H
      have HI2 := Aside0.mk (show i ≤ 64 by have := HI.out; omega)
      have H2 := Aside0.mk (Option.some.inj H)
      clear H hlt
      go_wp2
      go_ret3
      refine ⟨?_, HB.out⟩
      rw [← H2.out]
      exact ⟨_, rfl, HM.out.mono HI2.out, HO.out⟩
def impl_ResponseOf.f (k : Nat) (l0 : List (S78)) : Option (Int × List (S78) × Int) :=
  if l0.length > 64 then some (0, [], 4) else (psGo l0 [] []).bind fun p => match p with
    | none => some (0, [], 17)
    | some (hs, rs) => match lookF hs (⟨#[58, 115, 116, 97, 116, 117, 115]⟩ : ByteArray) with
      | none => some (0, [], 17)
      | some v => if hs.length ≠ 1 then some (0, [], 17) else if v.size ≠ 3 then some (0, [], 17) else (impl_letters.f k v 3 48 57).bind fun b => if b = true then
          ((strconv_Atoi.f v).bind fun n => (impl_responseOK.f k n.1 rs).bind fun q => if q = true then some (n.1, rs, 0) else some (0, [], 17)) else some (0, [], 17)
theorem impl_ResponseOf.mono : ∀ a0 k, LeO (impl_ResponseOf.f k a0) (impl_ResponseOf.f (k + 1) a0) := by
  intro a0 k
  unfold impl_ResponseOf.f
  refine LeO.ite (LeO.refl _) (LeO.bind (LeO.refl _) (fun p => ?_))
  cases p with
  | none => exact LeO.refl _
  | some p =>
    obtain ⟨hs, rs⟩ := p
    simp only
    cases lookF hs (⟨#[58, 115, 116, 97, 116, 117, 115]⟩ : ByteArray) with
    | none => exact LeO.refl _
    | some v => exact LeO.ite (LeO.refl _) (LeO.ite (LeO.refl _) (LeO.bind (impl_letters.mono _ _ _ _ _) (fun _ => LeO.ite (LeO.bind (LeO.refl _) (fun _ => LeO.bind (impl_responseOK.mono _ _ _) (fun _ => LeO.refl _))) (LeO.refl _))))
set_option maxHeartbeats 2000000 in
set_option maxRecDepth 100000 in
theorem impl_ResponseOf.calls (k : Nat) (A0 : Option Addr) (c0 : Nat) (l0 : List (S78)) (r1 : Int) (r2 : List (S78)) (r3 : Int) (w : World) (hr0 : Kd.C k78 w A0 l0.length l0) (hc0 : l0.length ≤ c0) (h : impl_ResponseOf.f k l0 = some (r1, r2, r3)) :
    Calls Tryd.prog 39 #[.slice A0 l0.length c0] w fun e w' => ∃ v1_ : Value, e = .returned (.tuple #[.agg #[.int .i64 r1, v1_], .int .i64 r3]) ∧ Kd.R k78 78 w' w.heap.size (fun _ => True) v1_ r2 ∧ Below w.heap.size w w' := by
  have huR := Tryd.underlying57
  have HR := Aside0.mk hr0
  clear hr0 hc0
  have HB := Aside0.mk (Below.refl w.heap.size w)
  unfold impl_ResponseOf.f at h
  by_cases c1 : l0.length > 64
  · rw [if_pos c1] at h
    simp only [Option.some.injEq, Prod.mk.injEq] at h
    obtain ⟨rfl, rfl, rfl⟩ := h
    have c1b0 : decide (64 < (l0.length : Int)) = true := decide_eq_true (by omega)
    have c1b1 : decide (64 < l0.length) = true := decide_eq_true c1
    clear c1
    go_enter Tryd.func39, Tryd.ntmps39
    go_wp2_with (first
      | ((with_reducible refine gate_dst (N := 2) rfl ?_); refine box_event ?hg (N := 2) ?hd (cs := #[.int .i64 0, .slice none 0 0]) (t := 57) ?hr ?_; (case hd => rfl); (case hg => rfl); (case hr => first | (go_simp; done) | (go_simp; rfl)); intro gb hg w3 hbox hb; have n0_ := Aside0.mk (below_step HB.out hb); have n1_ := Aside0.mk hbox; have n2_ := Aside0.mk (show w.heap.size ≤ gb from by rw [hg]; exact below_size HB.out); have n3_ := Aside0.mk (Kd.C_below HR.out hb); clear HB; have HB := n0_; have BK := n1_; have GE := n2_; have HR3 := n3_; clear n0_ n1_ n2_ n3_ hb hbox hg; have hcz0 : w3.cell? ⟨gb, 0, none⟩ = some (.int .i64 0) := (blk_cell BK.out 0).trans rfl; have hcz1 : w3.cell? ⟨gb, 1, none⟩ = some (.slice none 0 0) := (blk_cell BK.out 1).trans rfl; have hfz0 := blk_frozen BK.out 0; have hfz1 := blk_frozen BK.out 1))
    refine bodyPost_ret (results_ct rfl _ _ gb 57 #[.int .i64 0, .slice none 0 0] (0, 0) _ rfl (by (with_reducible repeat (first | refine blk_drewN ?_ _ | refine blk_drew ?_ | refine blk_alloc ?_ _)); refine blk_put (cs := #[.int .i64 0, .slice none 0 0]) ?_ 1 _ rfl; refine blk_put (cs := #[.int .i64 0, .slice none 0 0]) ?_ 0 _ rfl; (with_reducible repeat (first | refine blk_drewN ?_ _ | refine blk_drew ?_ | refine blk_alloc ?_ _)); exact BK.out) Tryd.underlying57 rfl (by kernel_rfl)) rfl ?_
    exact ⟨_, rfl, Kd.R_nil _ _ _ _ _, by with_reducible repeat (first | exact HB.out | apply below_drew1 | apply pw_below_drewN | refine below_set ?_ GE.out)⟩
  · rw [if_neg c1] at h
    have HL := Aside0.mk (show l0.length ≤ 64 by omega)
    have c1b0 : decide (64 < (l0.length : Int)) = false := decide_eq_false (by omega)
    have c1b1 : decide (64 < l0.length) = false := decide_eq_false c1
    clear c1
    replace h := Option.bind_eq_some_iff.mp h
    obtain ⟨p, hp, h⟩ := h
    have HP := Aside0.mk hp
    clear hp
    cases p with
    | none =>
      simp only [Option.some.injEq, Prod.mk.injEq] at h
      obtain ⟨rfl, rfl, rfl⟩ := h
      have hnil : ∀ W : World, (Instr.lookup 88 (.map none) (.string (⟨#[58, 115, 116, 97, 116, 117, 115]⟩ : ByteArray)) true).run Tryd.prog W = .ok (.tuple #[.string ⟨#[]⟩, .bool false]) W := fun W => Maps.look_nil true psK.keyed Tryd.underlying88 (psE.hz W) (psK.key (⟨#[58, 115, 116, 97, 116, 117, 115]⟩ : ByteArray) (show (7 : Nat) ≤ maxLen by unfold maxLen; omega))
      go_enter Tryd.func39, Tryd.ntmps39
      go_wp2_with (first
        | ((with_reducible refine gate_dst (N := 2) rfl ?_); refine box_event ?hg (N := 2) ?hd (cs := #[.int .i64 0, .slice none 0 0]) (t := 57) ?hr ?_; (case hd => rfl); (case hg => rfl); (case hr => first | (go_simp; done) | (go_simp; rfl)); intro gb hg w3 hbox hb; have n0_ := Aside0.mk (below_step HB.out hb); have n1_ := Aside0.mk hbox; have n2_ := Aside0.mk (show w.heap.size ≤ gb from by rw [hg]; exact below_size HB.out); have n3_ := Aside0.mk (Kd.C_below HR.out hb); clear HB; have HB := n0_; have BK := n1_; have GE := n2_; have HR3 := n3_; clear n0_ n1_ n2_ n3_ hb hbox hg; have hcz0 : w3.cell? ⟨gb, 0, none⟩ = some (.int .i64 0) := (blk_cell BK.out 0).trans rfl; have hcz1 : w3.cell? ⟨gb, 1, none⟩ = some (.slice none 0 0) := (blk_cell BK.out 1).trans rfl; have hfz0 := blk_frozen BK.out 0; have hfz1 := blk_frozen BK.out 1)
        | (go_at_call 57; (with_reducible refine (impl_pseudo.calls A0 c0 l0 none _ HL.out HR3.out HP.out).mono ?_); rintro e w5 ⟨hp5, hb5⟩; have hp6 : e = _ := hp5; subst hp6; clear hp5; have n0_ := Aside0.mk (below_step HB.out hb5); have n1_ := Aside0.mk (blk_below BK.out hb5); clear HB BK hcz0 hcz1 hfz0 hfz1; have HB := n0_; have BK := n1_; clear n0_ n1_ hb5; have hd0 : w5.cell? ⟨gb, 0, none⟩ = some (.int .i64 0) := (blk_cell BK.out 0).trans rfl; have hd1 : w5.cell? ⟨gb, 1, none⟩ = some (.slice none 0 0) := (blk_cell BK.out 1).trans rfl; have hf0 := blk_frozen BK.out 0; have hf1 := blk_frozen BK.out 1))
      refine bodyPost_ret (results_ct rfl _ _ gb 57 #[.int .i64 0, .slice none 0 0] (0, 0) _ rfl (by (with_reducible repeat (first | refine blk_drewN ?_ _ | refine blk_drew ?_ | refine blk_alloc ?_ _)); refine blk_put (cs := #[.int .i64 0, .slice none 0 0]) ?_ 1 _ rfl; refine blk_put (cs := #[.int .i64 0, .slice none 0 0]) ?_ 0 _ rfl; (with_reducible repeat (first | refine blk_drewN ?_ _ | refine blk_drew ?_ | refine blk_alloc ?_ _)); exact BK.out) Tryd.underlying57 rfl (by kernel_rfl)) rfl ?_
      exact ⟨_, rfl, Kd.R_nil _ _ _ _ _, by with_reducible repeat (first | exact HB.out | apply below_drew1 | apply pw_below_drewN | refine below_set ?_ GE.out)⟩
    | some p =>
      obtain ⟨hs, rs⟩ := p
      simp only at h
      cases hlk : lookF hs (⟨#[58, 115, 116, 97, 116, 117, 115]⟩ : ByteArray) with
      | none =>
        rw [hlk] at h
        have HLK := Aside0.mk hlk
        clear hlk
        simp only [Option.some.injEq, Prod.mk.injEq] at h
        obtain ⟨rfl, rfl, rfl⟩ := h
        go_enter Tryd.func39, Tryd.ntmps39
        go_wp2_with (first
          | ((with_reducible refine gate_dst (N := 2) rfl ?_); refine box_event ?hg (N := 2) ?hd (cs := #[.int .i64 0, .slice none 0 0]) (t := 57) ?hr ?_; (case hd => rfl); (case hg => rfl); (case hr => first | (go_simp; done) | (go_simp; rfl)); intro gb hg w3 hbox hb; have n0_ := Aside0.mk (below_step HB.out hb); have n1_ := Aside0.mk hbox; have n2_ := Aside0.mk (show w.heap.size ≤ gb from by rw [hg]; exact below_size HB.out); have n3_ := Aside0.mk (Kd.C_below HR.out hb); clear HB; have HB := n0_; have BK := n1_; have GE := n2_; have HR3 := n3_; clear n0_ n1_ n2_ n3_ hb hbox hg; have hcz0 : w3.cell? ⟨gb, 0, none⟩ = some (.int .i64 0) := (blk_cell BK.out 0).trans rfl; have hcz1 : w3.cell? ⟨gb, 1, none⟩ = some (.slice none 0 0) := (blk_cell BK.out 1).trans rfl; have hfz0 := blk_frozen BK.out 0; have hfz1 := blk_frozen BK.out 1)
          | (go_at_call 57; (with_reducible refine (impl_pseudo.calls A0 c0 l0 (some (hs, rs)) _ HL.out HR3.out HP.out).mono ?_); rintro e w5 ⟨⟨vr, hp5, hm5, hr5⟩, hb5⟩; subst hp5; have HM := Aside0.mk hm5; have HO := Aside0.mk (Kd.R_lower hr5 (below_size HB.out)); clear hm5 hr5; have hlen := HM.out.len Tryd.underlying88 3; have n0_ := Aside0.mk (below_step HB.out hb5); have n1_ := Aside0.mk (blk_below BK.out hb5); clear HB BK hcz0 hcz1 hfz0 hfz1; have HB := n0_; have BK := n1_; clear n0_ n1_ hb5; have hd0 : w5.cell? ⟨gb, 0, none⟩ = some (.int .i64 0) := (blk_cell BK.out 0).trans rfl; have hd1 : w5.cell? ⟨gb, 1, none⟩ = some (.slice none 0 0) := (blk_cell BK.out 1).trans rfl; have hf0 := blk_frozen BK.out 0; have hf1 := blk_frozen BK.out 1; obtain ⟨Ao, co, eo⟩ := Kd.R_slice HO.out; subst eo)
          | (at_lookup; refine Go.Proofs.YtkcimmlaoipdkaaDoor.MapF.wp_look_ok w5 rfl (.tmp 23) (.const (.string (⟨#[58, 115, 116, 97, 116, 117, 115]⟩ : ByteArray))) 88 rfl Tryd.underlying88 HM.out rfl (⟨#[58, 115, 116, 97, 116, 117, 115]⟩ : ByteArray) rfl (show (7 : Nat) ≤ maxLen by unfold maxLen; omega) ?_; rw [HLK.out]; change wpList _ _ _ _ (Act.put _ _ (.tuple #[.string ⟨#[]⟩, .bool false])) _))
        refine bodyPost_ret (results_ct rfl _ _ gb 57 #[.int .i64 0, .slice none 0 0] (0, 0) _ rfl (by (with_reducible repeat (first | refine blk_drewN ?_ _ | refine blk_drew ?_ | refine blk_alloc ?_ _)); refine blk_put (cs := #[.int .i64 0, .slice none 0 0]) ?_ 1 _ rfl; refine blk_put (cs := #[.int .i64 0, .slice none 0 0]) ?_ 0 _ rfl; (with_reducible repeat (first | refine blk_drewN ?_ _ | refine blk_drew ?_ | refine blk_alloc ?_ _)); exact BK.out) Tryd.underlying57 rfl (by kernel_rfl)) rfl ?_
        exact ⟨_, rfl, Kd.R_nil _ _ _ _ _, by with_reducible repeat (first | exact HB.out | apply below_drew1 | apply pw_below_drewN | refine below_set ?_ GE.out)⟩
      | some v =>
        rw [hlk] at h
        have HLK := Aside0.mk hlk
        clear hlk
        simp only at h
        by_cases c2 : hs.length = 1
        · rw [if_neg (by omega)] at h
          have c2b0 : ((hs.length : Int) != 1) = false := bne_eq_false_iff_eq.2 (by omega)
          have c2b1 : (hs.length != 1) = false := bne_eq_false_iff_eq.2 c2
          clear c2
          by_cases c3 : v.size = 3
          · rw [if_neg (by omega)] at h
            have c3b0 : ((v.size : Int) != 3) = false := bne_eq_false_iff_eq.2 (by omega)
            have c3b1 : (v.size != 3) = false := bne_eq_false_iff_eq.2 c3
            clear c3
            replace h := Option.bind_eq_some_iff.mp h
            obtain ⟨b, hb, h⟩ := h
            have AL := Aside0.mk hb
            clear hb
            cases b with
            | false =>
              rw [if_neg (by decide)] at h
              simp only [Option.some.injEq, Prod.mk.injEq] at h
              obtain ⟨rfl, rfl, rfl⟩ := h
              go_enter Tryd.func39, Tryd.ntmps39
              go_wp2_with (first
                | ((with_reducible refine gate_dst (N := 2) rfl ?_); refine box_event ?hg (N := 2) ?hd (cs := #[.int .i64 0, .slice none 0 0]) (t := 57) ?hr ?_; (case hd => rfl); (case hg => rfl); (case hr => first | (go_simp; done) | (go_simp; rfl)); intro gb hg w3 hbox hb; have n0_ := Aside0.mk (below_step HB.out hb); have n1_ := Aside0.mk hbox; have n2_ := Aside0.mk (show w.heap.size ≤ gb from by rw [hg]; exact below_size HB.out); have n3_ := Aside0.mk (Kd.C_below HR.out hb); clear HB; have HB := n0_; have BK := n1_; have GE := n2_; have HR3 := n3_; clear n0_ n1_ n2_ n3_ hb hbox hg; have hcz0 : w3.cell? ⟨gb, 0, none⟩ = some (.int .i64 0) := (blk_cell BK.out 0).trans rfl; have hcz1 : w3.cell? ⟨gb, 1, none⟩ = some (.slice none 0 0) := (blk_cell BK.out 1).trans rfl; have hfz0 := blk_frozen BK.out 0; have hfz1 := blk_frozen BK.out 1)
                | (go_at_call 57; (with_reducible refine (impl_pseudo.calls A0 c0 l0 (some (hs, rs)) _ HL.out HR3.out HP.out).mono ?_); rintro e w5 ⟨⟨vr, hp5, hm5, hr5⟩, hb5⟩; subst hp5; have HM := Aside0.mk hm5; have HO := Aside0.mk (Kd.R_lower hr5 (below_size HB.out)); clear hm5 hr5; have hlen := HM.out.len Tryd.underlying88 3; have n0_ := Aside0.mk (below_step HB.out hb5); have n1_ := Aside0.mk (blk_below BK.out hb5); clear HB BK hcz0 hcz1 hfz0 hfz1; have HB := n0_; have BK := n1_; clear n0_ n1_ hb5; have hd0 : w5.cell? ⟨gb, 0, none⟩ = some (.int .i64 0) := (blk_cell BK.out 0).trans rfl; have hd1 : w5.cell? ⟨gb, 1, none⟩ = some (.slice none 0 0) := (blk_cell BK.out 1).trans rfl; have hf0 := blk_frozen BK.out 0; have hf1 := blk_frozen BK.out 1; obtain ⟨Ao, co, eo⟩ := Kd.R_slice HO.out; subst eo)
                | (at_lookup; refine Go.Proofs.YtkcimmlaoipdkaaDoor.MapF.wp_look_ok w5 rfl (.tmp 23) (.const (.string (⟨#[58, 115, 116, 97, 116, 117, 115]⟩ : ByteArray))) 88 rfl Tryd.underlying88 HM.out rfl (⟨#[58, 115, 116, 97, 116, 117, 115]⟩ : ByteArray) rfl (show (7 : Nat) ≤ maxLen by unfold maxLen; omega) ?_; rw [HLK.out]; change wpList _ _ _ _ (Act.put _ _ (.tuple #[.string v, .bool true])) _)
                | (go_at_call 50; (with_reducible refine (impl_letters.calls k v 3 48 57 false _ AL.out).mono ?_); rintro e w' ⟨rfl, ⟨nd, rfl⟩⟩; have n0_ := Aside0.mk (pw_below_drewN HB.out nd); have n1_ := Aside0.mk (Kd.R_drewN HO.out nd); have n2_ := Aside0.mk (blk_drewN BK.out nd); clear HB HO BK; have HB := n0_; have HO := n1_; have BK := n2_; clear n0_ n1_ n2_))
              refine bodyPost_ret (results_ct rfl _ _ gb 57 #[.int .i64 0, .slice none 0 0] (0, 0) _ rfl (by (with_reducible repeat (first | refine blk_drewN ?_ _ | refine blk_drew ?_ | refine blk_alloc ?_ _)); refine blk_put (cs := #[.int .i64 0, .slice none 0 0]) ?_ 1 _ rfl; refine blk_put (cs := #[.int .i64 0, .slice none 0 0]) ?_ 0 _ rfl; (with_reducible repeat (first | refine blk_drewN ?_ _ | refine blk_drew ?_ | refine blk_alloc ?_ _)); exact BK.out) Tryd.underlying57 rfl (by kernel_rfl)) rfl ?_
              exact ⟨_, rfl, Kd.R_nil _ _ _ _ _, by with_reducible repeat (first | exact HB.out | apply below_drew1 | apply pw_below_drewN | refine below_set ?_ GE.out)⟩
            | true =>
              rw [if_pos rfl] at h
              replace h := Option.bind_eq_some_iff.mp h
              obtain ⟨⟨n1, n2⟩, hn, h⟩ := h
              have AN := Aside0.mk hn
              clear hn
              replace h := Option.bind_eq_some_iff.mp h
              obtain ⟨q, hq, h⟩ := h
              have AO := Aside0.mk (show impl_responseOK.f k n1 rs = some q from hq)
              clear hq
              cases q with
              | false =>
                rw [if_neg (by decide)] at h
                simp only [Option.some.injEq, Prod.mk.injEq] at h
                obtain ⟨rfl, rfl, rfl⟩ := h
                go_enter Tryd.func39, Tryd.ntmps39
                go_wp2_with (first
                  | ((with_reducible refine gate_dst (N := 2) rfl ?_); refine box_event ?hg (N := 2) ?hd (cs := #[.int .i64 0, .slice none 0 0]) (t := 57) ?hr ?_; (case hd => rfl); (case hg => rfl); (case hr => first | (go_simp; done) | (go_simp; rfl)); intro gb hg w3 hbox hb; have n0_ := Aside0.mk (below_step HB.out hb); have n1_ := Aside0.mk hbox; have n2_ := Aside0.mk (show w.heap.size ≤ gb from by rw [hg]; exact below_size HB.out); have n3_ := Aside0.mk (Kd.C_below HR.out hb); clear HB; have HB := n0_; have BK := n1_; have GE := n2_; have HR3 := n3_; clear n0_ n1_ n2_ n3_ hb hbox hg; have hcz0 : w3.cell? ⟨gb, 0, none⟩ = some (.int .i64 0) := (blk_cell BK.out 0).trans rfl; have hcz1 : w3.cell? ⟨gb, 1, none⟩ = some (.slice none 0 0) := (blk_cell BK.out 1).trans rfl; have hfz0 := blk_frozen BK.out 0; have hfz1 := blk_frozen BK.out 1)
                  | (go_at_call 57; (with_reducible refine (impl_pseudo.calls A0 c0 l0 (some (hs, rs)) _ HL.out HR3.out HP.out).mono ?_); rintro e w5 ⟨⟨vr, hp5, hm5, hr5⟩, hb5⟩; subst hp5; have HM := Aside0.mk hm5; have HO := Aside0.mk (Kd.R_lower hr5 (below_size HB.out)); clear hm5 hr5; have hlen := HM.out.len Tryd.underlying88 3; have n0_ := Aside0.mk (below_step HB.out hb5); have n1_ := Aside0.mk (blk_below BK.out hb5); clear HB BK hcz0 hcz1 hfz0 hfz1; have HB := n0_; have BK := n1_; clear n0_ n1_ hb5; have hd0 : w5.cell? ⟨gb, 0, none⟩ = some (.int .i64 0) := (blk_cell BK.out 0).trans rfl; have hd1 : w5.cell? ⟨gb, 1, none⟩ = some (.slice none 0 0) := (blk_cell BK.out 1).trans rfl; have hf0 := blk_frozen BK.out 0; have hf1 := blk_frozen BK.out 1; obtain ⟨Ao, co, eo⟩ := Kd.R_slice HO.out; subst eo)
                  | (at_lookup; refine Go.Proofs.YtkcimmlaoipdkaaDoor.MapF.wp_look_ok w5 rfl (.tmp 23) (.const (.string (⟨#[58, 115, 116, 97, 116, 117, 115]⟩ : ByteArray))) 88 rfl Tryd.underlying88 HM.out rfl (⟨#[58, 115, 116, 97, 116, 117, 115]⟩ : ByteArray) rfl (show (7 : Nat) ≤ maxLen by unfold maxLen; omega) ?_; rw [HLK.out]; change wpList _ _ _ _ (Act.put _ _ (.tuple #[.string v, .bool true])) _)
                  | (go_at_call 50; (with_reducible refine (impl_letters.calls k v 3 48 57 true _ AL.out).mono ?_); rintro e w' ⟨rfl, ⟨nd, rfl⟩⟩; have n0_ := Aside0.mk (pw_below_drewN HB.out nd); have n1_ := Aside0.mk (Kd.R_drewN HO.out nd); have n2_ := Aside0.mk (blk_drewN BK.out nd); clear HB HO BK; have HB := n0_; have HO := n1_; have BK := n2_; clear n0_ n1_ n2_)
                  | (go_at_call 51; (with_reducible refine (strconv_Atoi.calls v n1 n2 _ AN.out).mono ?_); rintro e w6 ⟨rfl, hb6⟩; have n0_ := Aside0.mk (below_step HB.out hb6); have n1_ := Aside0.mk (blk_below BK.out hb6); have n2_ := Aside0.mk (Kd.R_below HO.out hb6); clear HB BK HO hd0 hd1 hf0 hf1 hlen; have HB := n0_; have BK := n1_; have HO := n2_; clear n0_ n1_ n2_ hb6)
                  | ((with_reducible refine gate_dst (N := 11) rfl ?_); refine box_event ?hg (N := 11) ?hd (cs := #[.int .i64 0, .slice none 0 0]) (t := 57) ?hr ?_; (case hd => rfl); (case hg => rfl); (case hr => first | (go_simp; done) | (go_simp; rfl)); intro g2 hg w7 hbox hb; have n0_ := Aside0.mk (below_step HB.out hb); have n1_ := Aside0.mk hbox; have n2_ := Aside0.mk (show w.heap.size ≤ g2 from by rw [hg]; exact below_size HB.out); have n3_ := Aside0.mk (Kd.R_below HO.out hb); have n4_ := Aside0.mk (show gb ≠ g2 from by rw [hg]; exact Nat.ne_of_lt (blk_lt BK.out)); have n5_ := Aside0.mk (blk_below BK.out hb); clear HB HO BK; have HB := n0_; have BK2 := n1_; have GE2 := n2_; have HO := n3_; have NE := n4_; have BK := n5_; clear n0_ n1_ n2_ n3_ n4_ n5_ hb hbox hg; have hcz0 : w7.cell? ⟨g2, 0, none⟩ = some (.int .i64 0) := (blk_cell BK2.out 0).trans rfl; have hcz1 : w7.cell? ⟨g2, 1, none⟩ = some (.slice none 0 0) := (blk_cell BK2.out 1).trans rfl; have hfz0 := blk_frozen BK2.out 0; have hfz1 := blk_frozen BK2.out 1)
                  | (go_at_call 60; (with_reducible refine (impl_responseOK.calls k n1 Ao co rs false _ (Kd.R_reads' (e := 78) (base := w.heap.size) (ok := fun _ => True) (n := rs.length) (c := co) (Kd.R_set (Kd.R_set HO.out BK2.out (by decide) 0 _) (blk_put BK2.out 0 _ rfl) (by decide) 1 _)).2.2 (Kd.R_reads' HO.out).2.1 AO.out).mono ?_); rintro e w8 ⟨rfl, hb8⟩; have n0_ := Aside0.mk (Kd.R_below (Kd.R_set (Kd.R_set HO.out BK2.out (by decide) 0 _) (blk_put BK2.out 0 _ rfl) (by decide) 1 _) hb8); have n1_ := Aside0.mk (blk_below (blk_far (blk_far BK.out NE.out _) NE.out _) hb8); have n2_ := Aside0.mk (blk_below (blk_put (cs := #[.int .i64 n1, .slice none 0 0]) (blk_put (cs := #[.int .i64 0, .slice none 0 0]) BK2.out 0 (.int .i64 n1) rfl) 1 (.slice Ao rs.length co) rfl) hb8); have n3_ := Aside0.mk (below_step (below_set (below_set HB.out GE2.out) GE2.out) hb8); clear HO BK BK2 HB hcz0 hcz1 hfz0 hfz1; have HO := n0_; have BK := n1_; have BK2 := n2_; have HB := n3_; clear n0_ n1_ n2_ n3_ hb8; have hd0 : w8.cell? ⟨gb, 0, none⟩ = some (.int .i64 0) := (blk_cell BK.out 0).trans rfl; have hd1 : w8.cell? ⟨gb, 1, none⟩ = some (.slice none 0 0) := (blk_cell BK.out 1).trans rfl; have hf0 := blk_frozen BK.out 0; have hf1 := blk_frozen BK.out 1; have hc0 : w8.cell? ⟨g2, 0, none⟩ = some (.int .i64 n1) := (blk_cell BK2.out 0).trans rfl; have hc1 : w8.cell? ⟨g2, 1, none⟩ = some (.slice Ao rs.length co) := (blk_cell BK2.out 1).trans rfl))
                refine bodyPost_ret (results_ct rfl _ _ gb 57 #[.int .i64 0, .slice none 0 0] (0, 0) _ rfl (by (with_reducible repeat (first | refine blk_drewN ?_ _ | refine blk_drew ?_ | refine blk_alloc ?_ _)); refine blk_put (cs := #[.int .i64 0, .slice none 0 0]) ?_ 1 _ rfl; refine blk_put (cs := #[.int .i64 0, .slice none 0 0]) ?_ 0 _ rfl; (with_reducible repeat (first | refine blk_drewN ?_ _ | refine blk_drew ?_ | refine blk_alloc ?_ _)); exact BK.out) Tryd.underlying57 rfl (by kernel_rfl)) rfl ?_
                exact ⟨_, rfl, Kd.R_nil _ _ _ _ _, by with_reducible repeat (first | exact HB.out | apply below_drew1 | apply pw_below_drewN | refine below_set ?_ GE.out)⟩
              | true =>
                rw [if_pos rfl] at h
                simp only [Option.some.injEq, Prod.mk.injEq] at h
                obtain ⟨rfl, rfl, rfl⟩ := h
                go_enter Tryd.func39, Tryd.ntmps39
                go_wp2_with (first
                  | ((with_reducible refine gate_dst (N := 2) rfl ?_); refine box_event ?hg (N := 2) ?hd (cs := #[.int .i64 0, .slice none 0 0]) (t := 57) ?hr ?_; (case hd => rfl); (case hg => rfl); (case hr => first | (go_simp; done) | (go_simp; rfl)); intro gb hg w3 hbox hb; have n0_ := Aside0.mk (below_step HB.out hb); have n1_ := Aside0.mk hbox; have n2_ := Aside0.mk (show w.heap.size ≤ gb from by rw [hg]; exact below_size HB.out); have n3_ := Aside0.mk (Kd.C_below HR.out hb); clear HB; have HB := n0_; have BK := n1_; have GE := n2_; have HR3 := n3_; clear n0_ n1_ n2_ n3_ hb hbox hg; have hcz0 : w3.cell? ⟨gb, 0, none⟩ = some (.int .i64 0) := (blk_cell BK.out 0).trans rfl; have hcz1 : w3.cell? ⟨gb, 1, none⟩ = some (.slice none 0 0) := (blk_cell BK.out 1).trans rfl; have hfz0 := blk_frozen BK.out 0; have hfz1 := blk_frozen BK.out 1)
                  | (go_at_call 57; (with_reducible refine (impl_pseudo.calls A0 c0 l0 (some (hs, rs)) _ HL.out HR3.out HP.out).mono ?_); rintro e w5 ⟨⟨vr, hp5, hm5, hr5⟩, hb5⟩; subst hp5; have HM := Aside0.mk hm5; have HO := Aside0.mk (Kd.R_lower hr5 (below_size HB.out)); clear hm5 hr5; have hlen := HM.out.len Tryd.underlying88 3; have n0_ := Aside0.mk (below_step HB.out hb5); have n1_ := Aside0.mk (blk_below BK.out hb5); clear HB BK hcz0 hcz1 hfz0 hfz1; have HB := n0_; have BK := n1_; clear n0_ n1_ hb5; have hd0 : w5.cell? ⟨gb, 0, none⟩ = some (.int .i64 0) := (blk_cell BK.out 0).trans rfl; have hd1 : w5.cell? ⟨gb, 1, none⟩ = some (.slice none 0 0) := (blk_cell BK.out 1).trans rfl; have hf0 := blk_frozen BK.out 0; have hf1 := blk_frozen BK.out 1; obtain ⟨Ao, co, eo⟩ := Kd.R_slice HO.out; subst eo)
                  | (at_lookup; refine Go.Proofs.YtkcimmlaoipdkaaDoor.MapF.wp_look_ok w5 rfl (.tmp 23) (.const (.string (⟨#[58, 115, 116, 97, 116, 117, 115]⟩ : ByteArray))) 88 rfl Tryd.underlying88 HM.out rfl (⟨#[58, 115, 116, 97, 116, 117, 115]⟩ : ByteArray) rfl (show (7 : Nat) ≤ maxLen by unfold maxLen; omega) ?_; rw [HLK.out]; change wpList _ _ _ _ (Act.put _ _ (.tuple #[.string v, .bool true])) _)
                  | (go_at_call 50; (with_reducible refine (impl_letters.calls k v 3 48 57 true _ AL.out).mono ?_); rintro e w' ⟨rfl, ⟨nd, rfl⟩⟩; have n0_ := Aside0.mk (pw_below_drewN HB.out nd); have n1_ := Aside0.mk (Kd.R_drewN HO.out nd); have n2_ := Aside0.mk (blk_drewN BK.out nd); clear HB HO BK; have HB := n0_; have HO := n1_; have BK := n2_; clear n0_ n1_ n2_)
                  | (go_at_call 51; (with_reducible refine (strconv_Atoi.calls v n1 n2 _ AN.out).mono ?_); rintro e w6 ⟨rfl, hb6⟩; have n0_ := Aside0.mk (below_step HB.out hb6); have n1_ := Aside0.mk (blk_below BK.out hb6); have n2_ := Aside0.mk (Kd.R_below HO.out hb6); clear HB BK HO hd0 hd1 hf0 hf1 hlen; have HB := n0_; have BK := n1_; have HO := n2_; clear n0_ n1_ n2_ hb6)
                  | ((with_reducible refine gate_dst (N := 11) rfl ?_); refine box_event ?hg (N := 11) ?hd (cs := #[.int .i64 0, .slice none 0 0]) (t := 57) ?hr ?_; (case hd => rfl); (case hg => rfl); (case hr => first | (go_simp; done) | (go_simp; rfl)); intro g2 hg w7 hbox hb; have n0_ := Aside0.mk (below_step HB.out hb); have n1_ := Aside0.mk hbox; have n2_ := Aside0.mk (show w.heap.size ≤ g2 from by rw [hg]; exact below_size HB.out); have n3_ := Aside0.mk (Kd.R_below HO.out hb); have n4_ := Aside0.mk (show gb ≠ g2 from by rw [hg]; exact Nat.ne_of_lt (blk_lt BK.out)); have n5_ := Aside0.mk (blk_below BK.out hb); clear HB HO BK; have HB := n0_; have BK2 := n1_; have GE2 := n2_; have HO := n3_; have NE := n4_; have BK := n5_; clear n0_ n1_ n2_ n3_ n4_ n5_ hb hbox hg; have hcz0 : w7.cell? ⟨g2, 0, none⟩ = some (.int .i64 0) := (blk_cell BK2.out 0).trans rfl; have hcz1 : w7.cell? ⟨g2, 1, none⟩ = some (.slice none 0 0) := (blk_cell BK2.out 1).trans rfl; have hfz0 := blk_frozen BK2.out 0; have hfz1 := blk_frozen BK2.out 1)
                  | (go_at_call 60; (with_reducible refine (impl_responseOK.calls k n1 Ao co rs true _ (Kd.R_reads' (e := 78) (base := w.heap.size) (ok := fun _ => True) (n := rs.length) (c := co) (Kd.R_set (Kd.R_set HO.out BK2.out (by decide) 0 _) (blk_put BK2.out 0 _ rfl) (by decide) 1 _)).2.2 (Kd.R_reads' HO.out).2.1 AO.out).mono ?_); rintro e w8 ⟨rfl, hb8⟩; have n0_ := Aside0.mk (Kd.R_below (Kd.R_set (Kd.R_set HO.out BK2.out (by decide) 0 _) (blk_put BK2.out 0 _ rfl) (by decide) 1 _) hb8); have n1_ := Aside0.mk (blk_below (blk_far (blk_far BK.out NE.out _) NE.out _) hb8); have n2_ := Aside0.mk (blk_below (blk_put (cs := #[.int .i64 n1, .slice none 0 0]) (blk_put (cs := #[.int .i64 0, .slice none 0 0]) BK2.out 0 (.int .i64 n1) rfl) 1 (.slice Ao rs.length co) rfl) hb8); have n3_ := Aside0.mk (below_step (below_set (below_set HB.out GE2.out) GE2.out) hb8); clear HO BK BK2 HB hcz0 hcz1 hfz0 hfz1; have HO := n0_; have BK := n1_; have BK2 := n2_; have HB := n3_; clear n0_ n1_ n2_ n3_ hb8; have hd0 : w8.cell? ⟨gb, 0, none⟩ = some (.int .i64 0) := (blk_cell BK.out 0).trans rfl; have hd1 : w8.cell? ⟨gb, 1, none⟩ = some (.slice none 0 0) := (blk_cell BK.out 1).trans rfl; have hf0 := blk_frozen BK.out 0; have hf1 := blk_frozen BK.out 1; have hc0 : w8.cell? ⟨g2, 0, none⟩ = some (.int .i64 n1) := (blk_cell BK2.out 0).trans rfl; have hc1 : w8.cell? ⟨g2, 1, none⟩ = some (.slice Ao rs.length co) := (blk_cell BK2.out 1).trans rfl))
                refine bodyPost_ret (results_ct rfl _ _ gb 57 #[.int .i64 n1, .slice Ao rs.length co] (0, 0) _ rfl (by refine blk_put (cs := #[.int .i64 n1, .slice none 0 0]) ?_ 1 _ rfl; refine blk_put (cs := #[.int .i64 0, .slice none 0 0]) ?_ 0 _ rfl; exact BK.out) Tryd.underlying57 rfl (by kernel_rfl)) rfl ?_
                exact ⟨_, rfl, Kd.R_set (Kd.R_set HO.out BK.out (by decide) 0 _) (blk_put BK.out 0 _ rfl) (by decide) 1 _, by with_reducible repeat (first | exact HB.out | apply below_drew1 | apply pw_below_drewN | refine below_set ?_ GE.out)⟩
          · rw [if_pos c3] at h
            have c3b0 : ((v.size : Int) != 3) = true := bne_iff_ne.2 (by omega)
            have c3b1 : (v.size != 3) = true := bne_iff_ne.2 c3
            clear c3
            simp only [Option.some.injEq, Prod.mk.injEq] at h
            obtain ⟨rfl, rfl, rfl⟩ := h
            go_enter Tryd.func39, Tryd.ntmps39
            go_wp2_with (first
              | ((with_reducible refine gate_dst (N := 2) rfl ?_); refine box_event ?hg (N := 2) ?hd (cs := #[.int .i64 0, .slice none 0 0]) (t := 57) ?hr ?_; (case hd => rfl); (case hg => rfl); (case hr => first | (go_simp; done) | (go_simp; rfl)); intro gb hg w3 hbox hb; have n0_ := Aside0.mk (below_step HB.out hb); have n1_ := Aside0.mk hbox; have n2_ := Aside0.mk (show w.heap.size ≤ gb from by rw [hg]; exact below_size HB.out); have n3_ := Aside0.mk (Kd.C_below HR.out hb); clear HB; have HB := n0_; have BK := n1_; have GE := n2_; have HR3 := n3_; clear n0_ n1_ n2_ n3_ hb hbox hg; have hcz0 : w3.cell? ⟨gb, 0, none⟩ = some (.int .i64 0) := (blk_cell BK.out 0).trans rfl; have hcz1 : w3.cell? ⟨gb, 1, none⟩ = some (.slice none 0 0) := (blk_cell BK.out 1).trans rfl; have hfz0 := blk_frozen BK.out 0; have hfz1 := blk_frozen BK.out 1)
              | (go_at_call 57; (with_reducible refine (impl_pseudo.calls A0 c0 l0 (some (hs, rs)) _ HL.out HR3.out HP.out).mono ?_); rintro e w5 ⟨⟨vr, hp5, hm5, hr5⟩, hb5⟩; subst hp5; have HM := Aside0.mk hm5; have HO := Aside0.mk (Kd.R_lower hr5 (below_size HB.out)); clear hm5 hr5; have hlen := HM.out.len Tryd.underlying88 3; have n0_ := Aside0.mk (below_step HB.out hb5); have n1_ := Aside0.mk (blk_below BK.out hb5); clear HB BK hcz0 hcz1 hfz0 hfz1; have HB := n0_; have BK := n1_; clear n0_ n1_ hb5; have hd0 : w5.cell? ⟨gb, 0, none⟩ = some (.int .i64 0) := (blk_cell BK.out 0).trans rfl; have hd1 : w5.cell? ⟨gb, 1, none⟩ = some (.slice none 0 0) := (blk_cell BK.out 1).trans rfl; have hf0 := blk_frozen BK.out 0; have hf1 := blk_frozen BK.out 1; obtain ⟨Ao, co, eo⟩ := Kd.R_slice HO.out; subst eo)
              | (at_lookup; refine Go.Proofs.YtkcimmlaoipdkaaDoor.MapF.wp_look_ok w5 rfl (.tmp 23) (.const (.string (⟨#[58, 115, 116, 97, 116, 117, 115]⟩ : ByteArray))) 88 rfl Tryd.underlying88 HM.out rfl (⟨#[58, 115, 116, 97, 116, 117, 115]⟩ : ByteArray) rfl (show (7 : Nat) ≤ maxLen by unfold maxLen; omega) ?_; rw [HLK.out]; change wpList _ _ _ _ (Act.put _ _ (.tuple #[.string v, .bool true])) _))
            refine bodyPost_ret (results_ct rfl _ _ gb 57 #[.int .i64 0, .slice none 0 0] (0, 0) _ rfl (by (with_reducible repeat (first | refine blk_drewN ?_ _ | refine blk_drew ?_ | refine blk_alloc ?_ _)); refine blk_put (cs := #[.int .i64 0, .slice none 0 0]) ?_ 1 _ rfl; refine blk_put (cs := #[.int .i64 0, .slice none 0 0]) ?_ 0 _ rfl; (with_reducible repeat (first | refine blk_drewN ?_ _ | refine blk_drew ?_ | refine blk_alloc ?_ _)); exact BK.out) Tryd.underlying57 rfl (by kernel_rfl)) rfl ?_
            exact ⟨_, rfl, Kd.R_nil _ _ _ _ _, by with_reducible repeat (first | exact HB.out | apply below_drew1 | apply pw_below_drewN | refine below_set ?_ GE.out)⟩
        · rw [if_pos c2] at h
          have c2b0 : ((hs.length : Int) != 1) = true := bne_iff_ne.2 (by omega)
          have c2b1 : (hs.length != 1) = true := bne_iff_ne.2 c2
          clear c2
          simp only [Option.some.injEq, Prod.mk.injEq] at h
          obtain ⟨rfl, rfl, rfl⟩ := h
          go_enter Tryd.func39, Tryd.ntmps39
          go_wp2_with (first
            | ((with_reducible refine gate_dst (N := 2) rfl ?_); refine box_event ?hg (N := 2) ?hd (cs := #[.int .i64 0, .slice none 0 0]) (t := 57) ?hr ?_; (case hd => rfl); (case hg => rfl); (case hr => first | (go_simp; done) | (go_simp; rfl)); intro gb hg w3 hbox hb; have n0_ := Aside0.mk (below_step HB.out hb); have n1_ := Aside0.mk hbox; have n2_ := Aside0.mk (show w.heap.size ≤ gb from by rw [hg]; exact below_size HB.out); have n3_ := Aside0.mk (Kd.C_below HR.out hb); clear HB; have HB := n0_; have BK := n1_; have GE := n2_; have HR3 := n3_; clear n0_ n1_ n2_ n3_ hb hbox hg; have hcz0 : w3.cell? ⟨gb, 0, none⟩ = some (.int .i64 0) := (blk_cell BK.out 0).trans rfl; have hcz1 : w3.cell? ⟨gb, 1, none⟩ = some (.slice none 0 0) := (blk_cell BK.out 1).trans rfl; have hfz0 := blk_frozen BK.out 0; have hfz1 := blk_frozen BK.out 1)
            | (go_at_call 57; (with_reducible refine (impl_pseudo.calls A0 c0 l0 (some (hs, rs)) _ HL.out HR3.out HP.out).mono ?_); rintro e w5 ⟨⟨vr, hp5, hm5, hr5⟩, hb5⟩; subst hp5; have HM := Aside0.mk hm5; have HO := Aside0.mk (Kd.R_lower hr5 (below_size HB.out)); clear hm5 hr5; have hlen := HM.out.len Tryd.underlying88 3; have n0_ := Aside0.mk (below_step HB.out hb5); have n1_ := Aside0.mk (blk_below BK.out hb5); clear HB BK hcz0 hcz1 hfz0 hfz1; have HB := n0_; have BK := n1_; clear n0_ n1_ hb5; have hd0 : w5.cell? ⟨gb, 0, none⟩ = some (.int .i64 0) := (blk_cell BK.out 0).trans rfl; have hd1 : w5.cell? ⟨gb, 1, none⟩ = some (.slice none 0 0) := (blk_cell BK.out 1).trans rfl; have hf0 := blk_frozen BK.out 0; have hf1 := blk_frozen BK.out 1; obtain ⟨Ao, co, eo⟩ := Kd.R_slice HO.out; subst eo)
            | (at_lookup; refine Go.Proofs.YtkcimmlaoipdkaaDoor.MapF.wp_look_ok w5 rfl (.tmp 23) (.const (.string (⟨#[58, 115, 116, 97, 116, 117, 115]⟩ : ByteArray))) 88 rfl Tryd.underlying88 HM.out rfl (⟨#[58, 115, 116, 97, 116, 117, 115]⟩ : ByteArray) rfl (show (7 : Nat) ≤ maxLen by unfold maxLen; omega) ?_; rw [HLK.out]; change wpList _ _ _ _ (Act.put _ _ (.tuple #[.string v, .bool true])) _))
          refine bodyPost_ret (results_ct rfl _ _ gb 57 #[.int .i64 0, .slice none 0 0] (0, 0) _ rfl (by (with_reducible repeat (first | refine blk_drewN ?_ _ | refine blk_drew ?_ | refine blk_alloc ?_ _)); refine blk_put (cs := #[.int .i64 0, .slice none 0 0]) ?_ 1 _ rfl; refine blk_put (cs := #[.int .i64 0, .slice none 0 0]) ?_ 0 _ rfl; (with_reducible repeat (first | refine blk_drewN ?_ _ | refine blk_drew ?_ | refine blk_alloc ?_ _)); exact BK.out) Tryd.underlying57 rfl (by kernel_rfl)) rfl ?_
          exact ⟨_, rfl, Kd.R_nil _ _ _ _ _, by with_reducible repeat (first | exact HB.out | apply below_drew1 | apply pw_below_drewN | refine below_set ?_ GE.out)⟩

end Go.Proofs.YtkcimmlaoipdkaaDoor.PFnExactResponseOf
