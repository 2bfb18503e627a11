-- Written by a program of this repo (xprint.py) out of the translation; Lean checks it.
import Derived.Test.YtjhcphcjpndciaaPFnExactParamsOKx0
namespace Go.Proofs.Ytjhcphcjpndciaa.PFnExactParamsOK
open Go.RowKit Go.Proofs.YtjhcphcjpndciaaW.PrintWords Go.Proofs.YtjhcphcjpndciaaW.PrintLast Go.Proofs.YtjhcphcjpndciaaW.PrintMore
attribute [local go_sem] max2_int min2_int max_two min_two max_three min_three max_four min_four   -- for this text's walks alone
set_option linter.unusedVariables false
set_option linter.unusedSimpArgs false

/-! ### impl_ParamsOK: function 21 -/
def impl_paramCells : Array Value := #[.int .i64 1, .func (.func 143) #[] #[], .int .i64 0, .int .i64 1000000000000, .int .i64 0, .int .i64 3, .func (.func 144) #[] #[], .int .i64 1200, .int .i64 2000, .int .i64 2000, .int .i64 4, .func (.func 145) #[] #[], .int .i64 1, .int .i64 16384, .int .i64 4096, .int .i64 5, .func (.func 146) #[] #[], .int .i64 1, .int .i64 16384, .int .i64 1024, .int .i64 8, .func (.func 147) #[] #[], .int .i64 0, .int .i64 64, .int .i64 4, .int .i64 9, .func (.func 148) #[] #[], .int .i64 0, .int .i64 64, .int .i64 4, .int .i64 11, .func (.func 149) #[] #[], .int .i64 0, .int .i64 1000000, .int .i64 25000, .int .i64 14, .func (.func 150) #[] #[], .int .i64 2, .int .i64 16, .int .i64 2, .int .i64 32, .func (.func 151) #[] #[], .int .i64 0, .int .i64 1500, .int .i64 0]
theorem pN_value {P : Program} {ops : Array Oper} {rest : List Oper} {o : Oper} {a : Act} {Q : Exit → Act → World → Prop} {W w1 : World} {v : Value} (hgd : o.guard = none) (hrun : (execOp a.eval o).run P W = .ok (.value v) w1) (h : wpList P ops Q rest (a.put o.dst v) w1) : wpList P ops Q (o :: rest) a W := by
  refine wpList_plain hgd fun K hK => ?_
  unfold Oper.wp
  rw [hrun]
  exact hK _ _ h
theorem impl_paramAt0 (g : Nat) (w : World) : Calls Try.prog 143 #[.pointer (some ⟨g, 0, none⟩)] w fun e w' => e = .returned (.pointer (some ⟨g, 0, none⟩)) ∧ Drawn0 w w' := by
  go_enter Try.func143, Try.ntmps143
  go_wp2
  go_ret
  exact ⟨by first | rfl | (simp; done) | (simp [*]; done), by repeat (first | exact Drawn0.refl _ | apply Drawn0.step)⟩
theorem impl_paramAt1 (g : Nat) (w : World) : Calls Try.prog 144 #[.pointer (some ⟨g, 0, none⟩)] w fun e w' => e = .returned (.pointer (some ⟨g, 1, none⟩)) ∧ Drawn0 w w' := by
  go_enter Try.func144, Try.ntmps144
  go_wp2
  go_ret
  exact ⟨by first | rfl | (simp; done) | (simp [*]; done), by repeat (first | exact Drawn0.refl _ | apply Drawn0.step)⟩
theorem impl_paramAt2 (g : Nat) (w : World) : Calls Try.prog 145 #[.pointer (some ⟨g, 0, none⟩)] w fun e w' => e = .returned (.pointer (some ⟨g, 2, none⟩)) ∧ Drawn0 w w' := by
  go_enter Try.func145, Try.ntmps145
  go_wp2
  go_ret
  exact ⟨by first | rfl | (simp; done) | (simp [*]; done), by repeat (first | exact Drawn0.refl _ | apply Drawn0.step)⟩
theorem impl_paramAt3 (g : Nat) (w : World) : Calls Try.prog 146 #[.pointer (some ⟨g, 0, none⟩)] w fun e w' => e = .returned (.pointer (some ⟨g, 3, none⟩)) ∧ Drawn0 w w' := by
  go_enter Try.func146, Try.ntmps146
  go_wp2
  go_ret
  exact ⟨by first | rfl | (simp; done) | (simp [*]; done), by repeat (first | exact Drawn0.refl _ | apply Drawn0.step)⟩
theorem impl_paramAt4 (g : Nat) (w : World) : Calls Try.prog 147 #[.pointer (some ⟨g, 0, none⟩)] w fun e w' => e = .returned (.pointer (some ⟨g, 4, none⟩)) ∧ Drawn0 w w' := by
  go_enter Try.func147, Try.ntmps147
  go_wp2
  go_ret
  exact ⟨by first | rfl | (simp; done) | (simp [*]; done), by repeat (first | exact Drawn0.refl _ | apply Drawn0.step)⟩
theorem impl_paramAt5 (g : Nat) (w : World) : Calls Try.prog 148 #[.pointer (some ⟨g, 0, none⟩)] w fun e w' => e = .returned (.pointer (some ⟨g, 5, none⟩)) ∧ Drawn0 w w' := by
  go_enter Try.func148, Try.ntmps148
  go_wp2
  go_ret
  exact ⟨by first | rfl | (simp; done) | (simp [*]; done), by repeat (first | exact Drawn0.refl _ | apply Drawn0.step)⟩
theorem impl_paramAt6 (g : Nat) (w : World) : Calls Try.prog 149 #[.pointer (some ⟨g, 0, none⟩)] w fun e w' => e = .returned (.pointer (some ⟨g, 6, none⟩)) ∧ Drawn0 w w' := by
  go_enter Try.func149, Try.ntmps149
  go_wp2
  go_ret
  exact ⟨by first | rfl | (simp; done) | (simp [*]; done), by repeat (first | exact Drawn0.refl _ | apply Drawn0.step)⟩
theorem impl_paramAt7 (g : Nat) (w : World) : Calls Try.prog 150 #[.pointer (some ⟨g, 0, none⟩)] w fun e w' => e = .returned (.pointer (some ⟨g, 7, none⟩)) ∧ Drawn0 w w' := by
  go_enter Try.func150, Try.ntmps150
  go_wp2
  go_ret
  exact ⟨by first | rfl | (simp; done) | (simp [*]; done), by repeat (first | exact Drawn0.refl _ | apply Drawn0.step)⟩
theorem impl_paramAt8 (g : Nat) (w : World) : Calls Try.prog 151 #[.pointer (some ⟨g, 0, none⟩)] w fun e w' => e = .returned (.pointer (some ⟨g, 8, none⟩)) ∧ Drawn0 w w' := by
  go_enter Try.func151, Try.ntmps151
  go_wp2
  go_ret
  exact ⟨by first | rfl | (simp; done) | (simp [*]; done), by repeat (first | exact Drawn0.refl _ | apply Drawn0.step)⟩
set_option maxHeartbeats 2000000 in
set_option maxRecDepth 100000 in
theorem impl_paramNumbers.calls (w : World) : Calls Try.prog 81 #[] w fun e w' => ∃ g, e = .returned (.slice (some ⟨g, 0, none⟩) 9 9) ∧ w.heap.size ≤ g ∧ w'.heap[g]? = some (.cells impl_paramCells 120 (0, 0)) ∧ Below w.heap.size w w' := by
  go_enter Try.func81, Try.ntmps81
  refine wp_seq (wp_region_list ?_)
  refine pN_value rfl (v := .slice none 0 0) (w1 := w) (by kernel_rfl) ?_
  refine wp_seq (wp_region_list ?_)
  refine pN_value rfl (v := .agg #[.int .i64 1, .func (.func 143) #[] #[], .int .i64 0, .int .i64 1000000000000, .int .i64 0]) (w1 := w) (by kernel_rfl) ?_
  refine pN_value rfl (v := .agg #[.int .i64 3, .func (.func 144) #[] #[], .int .i64 1200, .int .i64 2000, .int .i64 2000]) (w1 := w) (by kernel_rfl) ?_
  refine pN_value rfl (v := .agg #[.int .i64 4, .func (.func 145) #[] #[], .int .i64 1, .int .i64 16384, .int .i64 4096]) (w1 := w) (by kernel_rfl) ?_
  refine pN_value rfl (v := .agg #[.int .i64 5, .func (.func 146) #[] #[], .int .i64 1, .int .i64 16384, .int .i64 1024]) (w1 := w) (by kernel_rfl) ?_
  refine pN_value rfl (v := .agg #[.int .i64 8, .func (.func 147) #[] #[], .int .i64 0, .int .i64 64, .int .i64 4]) (w1 := w) (by kernel_rfl) ?_
  refine pN_value rfl (v := .agg #[.int .i64 9, .func (.func 148) #[] #[], .int .i64 0, .int .i64 64, .int .i64 4]) (w1 := w) (by kernel_rfl) ?_
  refine pN_value rfl (v := .agg #[.int .i64 11, .func (.func 149) #[] #[], .int .i64 0, .int .i64 1000000, .int .i64 25000]) (w1 := w) (by kernel_rfl) ?_
  refine pN_value rfl (v := .agg #[.int .i64 14, .func (.func 150) #[] #[], .int .i64 2, .int .i64 16, .int .i64 2]) (w1 := w) (by kernel_rfl) ?_
  refine pN_value rfl (v := .agg #[.int .i64 32, .func (.func 151) #[] #[], .int .i64 0, .int .i64 1500, .int .i64 0]) (w1 := w) (by kernel_rfl) ?_
  refine pN_value rfl (v := .slice (some ⟨w.heap.size, 0, none⟩) 9 9) (w1 := w.alloc (.cells impl_paramCells 120)) (by kernel_rfl) ?_
  refine pN_value rfl (v := .slice (some ⟨w.heap.size, 0, none⟩) 9 9) (w1 := w.alloc (.cells impl_paramCells 120)) (by kernel_rfl) ?_
  unfold wpList
  unfold Exit.then
  refine wp_ret ?_
  refine bodyPost_ret (results_tmp rfl _ _ _) rfl ?_
  exact ⟨_, rfl, Nat.le_refl _, heap_alloc_new _ _, below_alloc (Below.refl _ _) _⟩
def impl_ParamsOK.okAt (a0_0 a0_1 a0_2 a0_3 a0_4 a0_5 a0_6 a0_7 a0_8 : Int) : Nat → Bool
  | 0 => decide (0 ≤ a0_0) && decide (a0_0 ≤ 1000000000000)
  | 1 => decide (1200 ≤ a0_1) && decide (a0_1 ≤ 2000)
  | 2 => decide (1 ≤ a0_2) && decide (a0_2 ≤ 16384)
  | 3 => decide (1 ≤ a0_3) && decide (a0_3 ≤ 16384)
  | 4 => decide (0 ≤ a0_4) && decide (a0_4 ≤ 64)
  | 5 => decide (0 ≤ a0_5) && decide (a0_5 ≤ 64)
  | 6 => decide (0 ≤ a0_6) && decide (a0_6 ≤ 1000000)
  | 7 => decide (2 ≤ a0_7) && decide (a0_7 ≤ 16)
  | 8 => decide (0 ≤ a0_8) && decide (a0_8 ≤ 1500)
  | _ => true
def impl_ParamsOK.nums (a0_0 a0_1 a0_2 a0_3 a0_4 a0_5 a0_6 a0_7 a0_8 : Int) : Bool := impl_ParamsOK.okAt a0_0 a0_1 a0_2 a0_3 a0_4 a0_5 a0_6 a0_7 a0_8 0 && impl_ParamsOK.okAt a0_0 a0_1 a0_2 a0_3 a0_4 a0_5 a0_6 a0_7 a0_8 1 && impl_ParamsOK.okAt a0_0 a0_1 a0_2 a0_3 a0_4 a0_5 a0_6 a0_7 a0_8 2 && impl_ParamsOK.okAt a0_0 a0_1 a0_2 a0_3 a0_4 a0_5 a0_6 a0_7 a0_8 3 && impl_ParamsOK.okAt a0_0 a0_1 a0_2 a0_3 a0_4 a0_5 a0_6 a0_7 a0_8 4 && impl_ParamsOK.okAt a0_0 a0_1 a0_2 a0_3 a0_4 a0_5 a0_6 a0_7 a0_8 5 && impl_ParamsOK.okAt a0_0 a0_1 a0_2 a0_3 a0_4 a0_5 a0_6 a0_7 a0_8 6 && impl_ParamsOK.okAt a0_0 a0_1 a0_2 a0_3 a0_4 a0_5 a0_6 a0_7 a0_8 7 && impl_ParamsOK.okAt a0_0 a0_1 a0_2 a0_3 a0_4 a0_5 a0_6 a0_7 a0_8 8
def impl_ParamsOK.bad (l0_10 l0_11 l0_12 : List Int) : Bool := decide (8 < (l0_12.length : Int)) || decide (8 < (l0_10.length : Int)) || (((l0_11.length : Int) != 0) && ((l0_11.length : Int) != 8))
def impl_ParamsOK.f (a0_0 a0_1 a0_2 a0_3 a0_4 a0_5 a0_6 a0_7 a0_8 : Int) (a0_9 : Bool) (l0_10 l0_11 l0_12 : List Int) (a1 : Bool) : Option Bool :=
  if impl_ParamsOK.nums a0_0 a0_1 a0_2 a0_3 a0_4 a0_5 a0_6 a0_7 a0_8 = true then (if impl_ParamsOK.bad l0_10 l0_11 l0_12 = true then some false else some (a1 || (((l0_10.length : Int) == 0) && ((l0_11.length : Int) == 0)))) else some false
set_option maxHeartbeats 8000000 in
set_option maxRecDepth 100000 in
theorem impl_ParamsOK.calls (a0_0 : Int) (a0_1 : Int) (a0_2 : Int) (a0_3 : Int) (a0_4 : Int) (a0_5 : Int) (a0_6 : Int) (a0_7 : Int) (a0_8 : Int) (a0_9 : Bool) (A0_10 : Option Addr) (c0_10 : Nat) (l0_10 : List Int) (A0_11 : Option Addr) (c0_11 : Nat) (l0_11 : List Int) (A0_12 : Option Addr) (c0_12 : Nat) (l0_12 : List Int) (a1 : Bool) (r : Bool) (w : World) (hr0_10 : Kd.C (Kd.int .u8) w A0_10 l0_10.length l0_10) (hc0_10 : l0_10.length ≤ c0_10) (hr0_11 : Kd.C (Kd.int .u8) w A0_11 l0_11.length l0_11) (hc0_11 : l0_11.length ≤ c0_11) (hr0_12 : Kd.C (Kd.int .u8) w A0_12 l0_12.length l0_12) (hc0_12 : l0_12.length ≤ c0_12) (h : impl_ParamsOK.f a0_0 a0_1 a0_2 a0_3 a0_4 a0_5 a0_6 a0_7 a0_8 a0_9 l0_10 l0_11 l0_12 a1 = some r) :
    Calls Try.prog 21 #[.agg #[.int .i64 a0_0, .int .i64 a0_1, .int .i64 a0_2, .int .i64 a0_3, .int .i64 a0_4, .int .i64 a0_5, .int .i64 a0_6, .int .i64 a0_7, .int .i64 a0_8, .bool a0_9, .slice A0_10 l0_10.length c0_10, .slice A0_11 l0_11.length c0_11, .slice A0_12 l0_12.length c0_12], .bool a1] w fun e w' => e = .returned (.bool r) ∧ Below w.heap.size w w' := by
  have hu33 := Try.underlying33
  have hu120 := Try.underlying120
  have hu116 := Try.underlying116
  have HB := Aside0.mk (Below.refl w.heap.size w)
  clear hr0_10 hc0_10 hr0_11 hc0_11 hr0_12 hc0_12
  unfold impl_ParamsOK.f at h
  have HS := Aside0.mk h
  clear h
  go_enter Try.func21, Try.ntmps21
  go_wp2_with (first | ((with_reducible refine gate_dst (N := 2) rfl ?_); refine box_event ?hg (N := 2) ?hd (cs := #[.int .i64 a0_0, .int .i64 a0_1, .int .i64 a0_2, .int .i64 a0_3, .int .i64 a0_4, .int .i64 a0_5, .int .i64 a0_6, .int .i64 a0_7, .int .i64 a0_8, .bool a0_9, .slice A0_10 l0_10.length c0_10, .slice A0_11 l0_11.length c0_11, .slice A0_12 l0_12.length c0_12]) (t := 33) ?hr ?_; (case hd => rfl); (case hg => rfl); (case hr => first | (go_simp; done) | (go_simp; rfl)); intro gb hg w5 hbox hb; have n0_ := Aside0.mk (below_step (by repeat (first | (with_reducible first | exact HB.out | apply below_alloc | apply pw_below_drewN | apply below_drew1 | refine below_set ?_ GE.out) | exact HB.out)) hb); have n1_ := Aside0.mk hbox; have n2_ := Aside0.mk ((by rw [hg]; exact Nat.le_refl _) : w.heap.size ≤ gb); clear HB; have HB := n0_; have HP := n1_; have GW := n2_; clear n0_ n1_ n2_; clear hb hbox hg) | (go_at_call 81; (with_reducible refine (impl_paramNumbers.calls _).mono ?_); rintro e w6 ⟨rb, rfl, hge, hrow, hb⟩; have n0_ := Aside0.mk (below_step (by repeat (first | (with_reducible first | exact HB.out | apply below_alloc | apply pw_below_drewN | apply below_drew1 | refine below_set ?_ GE.out) | exact HB.out)) hb); have n1_ := Aside0.mk (blk_below (by (with_reducible repeat (first | exact HP.out | refine blk_drewN ?_ _ | refine blk_drew ?_ | refine blk_alloc ?_ _ | refine blk_far ?_ NHP.out _))) hb); have n2_ := Aside0.mk hrow; clear HB HP; have HB := n0_; have HP := n1_; have HR := n2_; clear n0_ n1_ n2_; clear hb hrow hge))
  go_loopg [10] 9 (fun kq v10 wr => ∃ i : Nat, v10 = .int .i64 i ∧ Aside0 (i + kq = 9) ∧ Aside0 (∀ j < i, impl_ParamsOK.okAt a0_0 a0_1 a0_2 a0_3 a0_4 a0_5 a0_6 a0_7 a0_8 j = true) ∧ Aside0 (wr.heap[gb]? = some (.cells #[.int .i64 a0_0, .int .i64 a0_1, .int .i64 a0_2, .int .i64 a0_3, .int .i64 a0_4, .int .i64 a0_5, .int .i64 a0_6, .int .i64 a0_7, .int .i64 a0_8, .bool a0_9, .slice A0_10 l0_10.length c0_10, .slice A0_11 l0_11.length c0_11, .slice A0_12 l0_12.length c0_12] 33 (0, 0))) ∧ Aside0 (wr.heap[rb]? = some (.cells impl_paramCells 120 (0, 0))) ∧ Aside0 (Below w.heap.size w wr))
  case atStart => exact ⟨0, rfl, ⟨rfl⟩, ⟨fun j hj => absurd hj (Nat.not_lt_zero _)⟩, HP, HR, HB⟩
  case round =>
    clear HB HP HR
    obtain ⟨i, rfl, Hi, HK, HP, HR, HB⟩ := hrel
    have hi : i = 0 ∨ i = 1 ∨ i = 2 ∨ i = 3 ∨ i = 4 ∨ i = 5 ∨ i = 6 ∨ i = 7 ∨ i = 8 ∨ i = 9 := by have := Hi.out; omega
    rcases hi with rfl | rfl | rfl | rfl | rfl | rfl | rfl | rfl | rfl | rfl
    · obtain ⟨m, rfl⟩ : ∃ m, gk = m + 1 := ⟨gk - 1, by have := Hi.out; omega⟩
      have hcr_0 : World.cell? _ ⟨rb, 0, none⟩ = some (.int .i64 1) := (blk_cell HR.out 0).trans (by kernel_rfl)
      have hcr_1 : World.cell? _ ⟨rb, 1, none⟩ = some (.func (.func 143) #[] #[]) := (blk_cell HR.out 1).trans (by kernel_rfl)
      have hcr_2 : World.cell? _ ⟨rb, 2, none⟩ = some (.int .i64 0) := (blk_cell HR.out 2).trans (by kernel_rfl)
      have hcr_3 : World.cell? _ ⟨rb, 3, none⟩ = some (.int .i64 1000000000000) := (blk_cell HR.out 3).trans (by kernel_rfl)
      have hcr_4 : World.cell? _ ⟨rb, 4, none⟩ = some (.int .i64 0) := (blk_cell HR.out 4).trans (by kernel_rfl)
      have hcz_0 : World.cell? _ ⟨gb, 0, none⟩ = some (.int .i64 a0_0) := (blk_cell HP.out 0).trans rfl
      by_cases q1 : a0_0 < 0
      · have q1b : decide (a0_0 < 0) = true := decide_eq_true q1
        have hx : impl_ParamsOK.okAt a0_0 a0_1 a0_2 a0_3 a0_4 a0_5 a0_6 a0_7 a0_8 0 = false := by show (decide (0 ≤ a0_0) && decide (a0_0 ≤ 1000000000000)) = false; rw [decide_eq_false (by omega), Bool.false_and]
        have hn : impl_ParamsOK.nums a0_0 a0_1 a0_2 a0_3 a0_4 a0_5 a0_6 a0_7 a0_8 = false := by unfold impl_ParamsOK.nums; rw [hx]; simp
        have hS := HS.out
        clear HS
        rw [hn, if_neg (by simp)] at hS
        obtain rfl := Option.some.inj hS
        clear hS hn hx
        go_wp2_with (first | ((with_reducible refine gate_dst (N := 6) rfl ?_); refine box_event ?hg (N := 6) ?hd (cs := #[.int .i64 0, .nilFunc, .int .i64 0, .int .i64 0, .int .i64 0]) (t := 120) ?hr ?_; (case hd => rfl); (case hg => rfl); (case hr => first | (go_simp; done) | (go_simp; rfl)); intro nb hg w7 hbox hb; have n0_ := Aside0.mk (below_step (by repeat (first | (with_reducible first | exact HB.out | apply below_alloc | apply pw_below_drewN | apply below_drew1 | refine below_set ?_ GE.out) | exact HB.out)) hb); have n1_ := Aside0.mk (blk_below (by (with_reducible repeat (first | exact HP.out | refine blk_drewN ?_ _ | refine blk_drew ?_ | refine blk_alloc ?_ _ | refine blk_far ?_ NHP.out _))) hb); have n2_ := Aside0.mk (blk_below (by (with_reducible repeat (first | exact HR.out | refine blk_drewN ?_ _ | refine blk_drew ?_ | refine blk_alloc ?_ _ | refine blk_far ?_ NHR.out _))) hb); have n3_ := Aside0.mk hbox; have n4_ := Aside0.mk ((by rw [hg]; exact (below_size (by repeat (first | (with_reducible first | exact HB.out | apply below_alloc | apply pw_below_drewN | apply below_drew1 | refine below_set ?_ GE.out) | exact HB.out)))) : w.heap.size ≤ nb); have n5_ := Aside0.mk ((by rw [hg]; exact Nat.ne_of_lt (blk_lt (g := gb) (by (with_reducible repeat (first | exact HP.out | refine blk_drewN ?_ _ | refine blk_drew ?_ | refine blk_alloc ?_ _ | refine blk_far ?_ NHP.out _))))) : gb ≠ nb); have n6_ := Aside0.mk ((by rw [hg]; exact Nat.ne_of_lt (blk_lt (g := rb) (by (with_reducible repeat (first | exact HR.out | refine blk_drewN ?_ _ | refine blk_drew ?_ | refine blk_alloc ?_ _ | refine blk_far ?_ NHR.out _))))) : rb ≠ nb); clear HB HP HR; have HB := n0_; have HP := n1_; have HR := n2_; have HN := n3_; have GE := n4_; have NHP := n5_; have NHR := n6_; clear n0_ n1_ n2_ n3_ n4_ n5_ n6_; clear hb hbox hg; have hnb := NHP.out; have hnc := NHP.out.symm; have hcn_0 : w7.cell? ⟨nb, 0, none⟩ = some (.int .i64 0) := (blk_cell HN.out 0).trans rfl; have hcn_1 : w7.cell? ⟨nb, 1, none⟩ = some (.nilFunc) := (blk_cell HN.out 1).trans rfl; have hcn_2 : w7.cell? ⟨nb, 2, none⟩ = some (.int .i64 0) := (blk_cell HN.out 2).trans rfl; have hcn_3 : w7.cell? ⟨nb, 3, none⟩ = some (.int .i64 0) := (blk_cell HN.out 3).trans rfl; have hcn_4 : w7.cell? ⟨nb, 4, none⟩ = some (.int .i64 0) := (blk_cell HN.out 4).trans rfl; have hfn_0 := blk_frozen HN.out 0; have hfn_1 := blk_frozen HN.out 1; have hfn_2 := blk_frozen HN.out 2; have hfn_3 := blk_frozen HN.out 3; have hfn_4 := blk_frozen HN.out 4; have hcz_0 : World.cell? w7 ⟨gb, 0, none⟩ = some (.int .i64 a0_0) := (blk_cell HP.out 0).trans rfl) | (go_at_call 143; (with_reducible refine (impl_paramAt0 gb _).mono ?_); rintro e w8 ⟨rfl, hd⟩; obtain ⟨m1, hm1⟩ := hd; subst hm1))
        go_ret
        exact ⟨by first | rfl | (simp; done) | (simp [*]; done), (by repeat (first | (with_reducible first | exact HB.out | apply below_alloc | apply pw_below_drewN | apply below_drew1 | refine below_set ?_ GE.out) | exact HB.out))⟩
      · have q1b : decide (a0_0 < 0) = false := decide_eq_false q1
        by_cases q2 : 1000000000000 < a0_0
        · have q2b : decide (1000000000000 < a0_0) = true := decide_eq_true q2
          have hx : impl_ParamsOK.okAt a0_0 a0_1 a0_2 a0_3 a0_4 a0_5 a0_6 a0_7 a0_8 0 = false := by show (decide (0 ≤ a0_0) && decide (a0_0 ≤ 1000000000000)) = false; rw [decide_eq_false (show ¬ a0_0 ≤ 1000000000000 by omega), Bool.and_false]
          have hn : impl_ParamsOK.nums a0_0 a0_1 a0_2 a0_3 a0_4 a0_5 a0_6 a0_7 a0_8 = false := by unfold impl_ParamsOK.nums; rw [hx]; simp
          have hS := HS.out
          clear HS
          rw [hn, if_neg (by simp)] at hS
          obtain rfl := Option.some.inj hS
          clear hS hn hx
          go_wp2_with (first | ((with_reducible refine gate_dst (N := 6) rfl ?_); refine box_event ?hg (N := 6) ?hd (cs := #[.int .i64 0, .nilFunc, .int .i64 0, .int .i64 0, .int .i64 0]) (t := 120) ?hr ?_; (case hd => rfl); (case hg => rfl); (case hr => first | (go_simp; done) | (go_simp; rfl)); intro nb hg w7 hbox hb; have n0_ := Aside0.mk (below_step (by repeat (first | (with_reducible first | exact HB.out | apply below_alloc | apply pw_below_drewN | apply below_drew1 | refine below_set ?_ GE.out) | exact HB.out)) hb); have n1_ := Aside0.mk (blk_below (by (with_reducible repeat (first | exact HP.out | refine blk_drewN ?_ _ | refine blk_drew ?_ | refine blk_alloc ?_ _ | refine blk_far ?_ NHP.out _))) hb); have n2_ := Aside0.mk (blk_below (by (with_reducible repeat (first | exact HR.out | refine blk_drewN ?_ _ | refine blk_drew ?_ | refine blk_alloc ?_ _ | refine blk_far ?_ NHR.out _))) hb); have n3_ := Aside0.mk hbox; have n4_ := Aside0.mk ((by rw [hg]; exact (below_size (by repeat (first | (with_reducible first | exact HB.out | apply below_alloc | apply pw_below_drewN | apply below_drew1 | refine below_set ?_ GE.out) | exact HB.out)))) : w.heap.size ≤ nb); have n5_ := Aside0.mk ((by rw [hg]; exact Nat.ne_of_lt (blk_lt (g := gb) (by (with_reducible repeat (first | exact HP.out | refine blk_drewN ?_ _ | refine blk_drew ?_ | refine blk_alloc ?_ _ | refine blk_far ?_ NHP.out _))))) : gb ≠ nb); have n6_ := Aside0.mk ((by rw [hg]; exact Nat.ne_of_lt (blk_lt (g := rb) (by (with_reducible repeat (first | exact HR.out | refine blk_drewN ?_ _ | refine blk_drew ?_ | refine blk_alloc ?_ _ | refine blk_far ?_ NHR.out _))))) : rb ≠ nb); clear HB HP HR; have HB := n0_; have HP := n1_; have HR := n2_; have HN := n3_; have GE := n4_; have NHP := n5_; have NHR := n6_; clear n0_ n1_ n2_ n3_ n4_ n5_ n6_; clear hb hbox hg; have hnb := NHP.out; have hnc := NHP.out.symm; have hcn_0 : w7.cell? ⟨nb, 0, none⟩ = some (.int .i64 0) := (blk_cell HN.out 0).trans rfl; have hcn_1 : w7.cell? ⟨nb, 1, none⟩ = some (.nilFunc) := (blk_cell HN.out 1).trans rfl; have hcn_2 : w7.cell? ⟨nb, 2, none⟩ = some (.int .i64 0) := (blk_cell HN.out 2).trans rfl; have hcn_3 : w7.cell? ⟨nb, 3, none⟩ = some (.int .i64 0) := (blk_cell HN.out 3).trans rfl; have hcn_4 : w7.cell? ⟨nb, 4, none⟩ = some (.int .i64 0) := (blk_cell HN.out 4).trans rfl; have hfn_0 := blk_frozen HN.out 0; have hfn_1 := blk_frozen HN.out 1; have hfn_2 := blk_frozen HN.out 2; have hfn_3 := blk_frozen HN.out 3; have hfn_4 := blk_frozen HN.out 4; have hcz_0 : World.cell? w7 ⟨gb, 0, none⟩ = some (.int .i64 a0_0) := (blk_cell HP.out 0).trans rfl) | (go_at_call 143; (with_reducible refine (impl_paramAt0 gb _).mono ?_); rintro e w8 ⟨rfl, hd⟩; obtain ⟨m1, hm1⟩ := hd; subst hm1))
          go_ret
          exact ⟨by first | rfl | (simp; done) | (simp [*]; done), (by repeat (first | (with_reducible first | exact HB.out | apply below_alloc | apply pw_below_drewN | apply below_drew1 | refine below_set ?_ GE.out) | exact HB.out))⟩
        · have q2b : decide (1000000000000 < a0_0) = false := decide_eq_false q2
          have hx : impl_ParamsOK.okAt a0_0 a0_1 a0_2 a0_3 a0_4 a0_5 a0_6 a0_7 a0_8 0 = true := by show (decide (0 ≤ a0_0) && decide (a0_0 ≤ 1000000000000)) = true; rw [decide_eq_true (show 0 ≤ a0_0 by omega), decide_eq_true (show a0_0 ≤ 1000000000000 by omega)]; rfl
          have HK2 : Aside0 (∀ j < 1, impl_ParamsOK.okAt a0_0 a0_1 a0_2 a0_3 a0_4 a0_5 a0_6 a0_7 a0_8 j = true) := ⟨fun j hj => by by_cases hl : j < 0; exact HK.out j hl; obtain rfl : j = 0 := (by omega); exact hx⟩
          clear hx HK
          go_wp2_with (first | ((with_reducible refine gate_dst (N := 6) rfl ?_); refine box_event ?hg (N := 6) ?hd (cs := #[.int .i64 0, .nilFunc, .int .i64 0, .int .i64 0, .int .i64 0]) (t := 120) ?hr ?_; (case hd => rfl); (case hg => rfl); (case hr => first | (go_simp; done) | (go_simp; rfl)); intro nb hg w7 hbox hb; have n0_ := Aside0.mk (below_step (by repeat (first | (with_reducible first | exact HB.out | apply below_alloc | apply pw_below_drewN | apply below_drew1 | refine below_set ?_ GE.out) | exact HB.out)) hb); have n1_ := Aside0.mk (blk_below (by (with_reducible repeat (first | exact HP.out | refine blk_drewN ?_ _ | refine blk_drew ?_ | refine blk_alloc ?_ _ | refine blk_far ?_ NHP.out _))) hb); have n2_ := Aside0.mk (blk_below (by (with_reducible repeat (first | exact HR.out | refine blk_drewN ?_ _ | refine blk_drew ?_ | refine blk_alloc ?_ _ | refine blk_far ?_ NHR.out _))) hb); have n3_ := Aside0.mk hbox; have n4_ := Aside0.mk ((by rw [hg]; exact (below_size (by repeat (first | (with_reducible first | exact HB.out | apply below_alloc | apply pw_below_drewN | apply below_drew1 | refine below_set ?_ GE.out) | exact HB.out)))) : w.heap.size ≤ nb); have n5_ := Aside0.mk ((by rw [hg]; exact Nat.ne_of_lt (blk_lt (g := gb) (by (with_reducible repeat (first | exact HP.out | refine blk_drewN ?_ _ | refine blk_drew ?_ | refine blk_alloc ?_ _ | refine blk_far ?_ NHP.out _))))) : gb ≠ nb); have n6_ := Aside0.mk ((by rw [hg]; exact Nat.ne_of_lt (blk_lt (g := rb) (by (with_reducible repeat (first | exact HR.out | refine blk_drewN ?_ _ | refine blk_drew ?_ | refine blk_alloc ?_ _ | refine blk_far ?_ NHR.out _))))) : rb ≠ nb); clear HB HP HR; have HB := n0_; have HP := n1_; have HR := n2_; have HN := n3_; have GE := n4_; have NHP := n5_; have NHR := n6_; clear n0_ n1_ n2_ n3_ n4_ n5_ n6_; clear hb hbox hg; have hnb := NHP.out; have hnc := NHP.out.symm; have hcn_0 : w7.cell? ⟨nb, 0, none⟩ = some (.int .i64 0) := (blk_cell HN.out 0).trans rfl; have hcn_1 : w7.cell? ⟨nb, 1, none⟩ = some (.nilFunc) := (blk_cell HN.out 1).trans rfl; have hcn_2 : w7.cell? ⟨nb, 2, none⟩ = some (.int .i64 0) := (blk_cell HN.out 2).trans rfl; have hcn_3 : w7.cell? ⟨nb, 3, none⟩ = some (.int .i64 0) := (blk_cell HN.out 3).trans rfl; have hcn_4 : w7.cell? ⟨nb, 4, none⟩ = some (.int .i64 0) := (blk_cell HN.out 4).trans rfl; have hfn_0 := blk_frozen HN.out 0; have hfn_1 := blk_frozen HN.out 1; have hfn_2 := blk_frozen HN.out 2; have hfn_3 := blk_frozen HN.out 3; have hfn_4 := blk_frozen HN.out 4; have hcz_0 : World.cell? w7 ⟨gb, 0, none⟩ = some (.int .i64 a0_0) := (blk_cell HP.out 0).trans rfl) | (go_at_call 143; (with_reducible refine (impl_paramAt0 gb _).mono ?_); rintro e w8 ⟨rfl, hd⟩; obtain ⟨m1, hm1⟩ := hd; subst hm1))
          go_roundg m
          case measure => omega
          case rel => exact ⟨1, by go_num, ⟨by have := Hi.out; omega⟩, HK2, ⟨(by (with_reducible repeat (first | exact HP.out | refine blk_drewN ?_ _ | refine blk_drew ?_ | refine blk_alloc ?_ _ | refine blk_far ?_ NHP.out _)))⟩, ⟨(by (with_reducible repeat (first | exact HR.out | refine blk_drewN ?_ _ | refine blk_drew ?_ | refine blk_alloc ?_ _ | refine blk_far ?_ NHR.out _)))⟩, ⟨(by repeat (first | (with_reducible first | exact HB.out | apply below_alloc | apply pw_below_drewN | apply below_drew1 | refine below_set ?_ GE.out) | exact HB.out))⟩⟩
    · obtain ⟨m, rfl⟩ : ∃ m, gk = m + 1 := ⟨gk - 1, by have := Hi.out; omega⟩
      have hcr_0 : World.cell? _ ⟨rb, 5, none⟩ = some (.int .i64 3) := (blk_cell HR.out 5).trans (by kernel_rfl)
      have hcr_1 : World.cell? _ ⟨rb, 6, none⟩ = some (.func (.func 144) #[] #[]) := (blk_cell HR.out 6).trans (by kernel_rfl)
      have hcr_2 : World.cell? _ ⟨rb, 7, none⟩ = some (.int .i64 1200) := (blk_cell HR.out 7).trans (by kernel_rfl)
      have hcr_3 : World.cell? _ ⟨rb, 8, none⟩ = some (.int .i64 2000) := (blk_cell HR.out 8).trans (by kernel_rfl)
      have hcr_4 : World.cell? _ ⟨rb, 9, none⟩ = some (.int .i64 2000) := (blk_cell HR.out 9).trans (by kernel_rfl)
      have hcz_1 : World.cell? _ ⟨gb, 1, none⟩ = some (.int .i64 a0_1) := (blk_cell HP.out 1).trans rfl
      by_cases q1 : a0_1 < 1200
      · have q1b : decide (a0_1 < 1200) = true := decide_eq_true q1
        have hx : impl_ParamsOK.okAt a0_0 a0_1 a0_2 a0_3 a0_4 a0_5 a0_6 a0_7 a0_8 1 = false := by show (decide (1200 ≤ a0_1) && decide (a0_1 ≤ 2000)) = false; rw [decide_eq_false (by omega), Bool.false_and]
        have hn : impl_ParamsOK.nums a0_0 a0_1 a0_2 a0_3 a0_4 a0_5 a0_6 a0_7 a0_8 = false := by unfold impl_ParamsOK.nums; rw [hx]; simp
        have hS := HS.out
        clear HS
        rw [hn, if_neg (by simp)] at hS
        obtain rfl := Option.some.inj hS
        clear hS hn hx
        go_wp2_with (first | ((with_reducible refine gate_dst (N := 6) rfl ?_); refine box_event ?hg (N := 6) ?hd (cs := #[.int .i64 0, .nilFunc, .int .i64 0, .int .i64 0, .int .i64 0]) (t := 120) ?hr ?_; (case hd => rfl); (case hg => rfl); (case hr => first | (go_simp; done) | (go_simp; rfl)); intro nb hg w7 hbox hb; have n0_ := Aside0.mk (below_step (by repeat (first | (with_reducible first | exact HB.out | apply below_alloc | apply pw_below_drewN | apply below_drew1 | refine below_set ?_ GE.out) | exact HB.out)) hb); have n1_ := Aside0.mk (blk_below (by (with_reducible repeat (first | exact HP.out | refine blk_drewN ?_ _ | refine blk_drew ?_ | refine blk_alloc ?_ _ | refine blk_far ?_ NHP.out _))) hb); have n2_ := Aside0.mk (blk_below (by (with_reducible repeat (first | exact HR.out | refine blk_drewN ?_ _ | refine blk_drew ?_ | refine blk_alloc ?_ _ | refine blk_far ?_ NHR.out _))) hb); have n3_ := Aside0.mk hbox; have n4_ := Aside0.mk ((by rw [hg]; exact (below_size (by repeat (first | (with_reducible first | exact HB.out | apply below_alloc | apply pw_below_drewN | apply below_drew1 | refine below_set ?_ GE.out) | exact HB.out)))) : w.heap.size ≤ nb); have n5_ := Aside0.mk ((by rw [hg]; exact Nat.ne_of_lt (blk_lt (g := gb) (by (with_reducible repeat (first | exact HP.out | refine blk_drewN ?_ _ | refine blk_drew ?_ | refine blk_alloc ?_ _ | refine blk_far ?_ NHP.out _))))) : gb ≠ nb); have n6_ := Aside0.mk ((by rw [hg]; exact Nat.ne_of_lt (blk_lt (g := rb) (by (with_reducible repeat (first | exact HR.out | refine blk_drewN ?_ _ | refine blk_drew ?_ | refine blk_alloc ?_ _ | refine blk_far ?_ NHR.out _))))) : rb ≠ nb); clear HB HP HR; have HB := n0_; have HP := n1_; have HR := n2_; have HN := n3_; have GE := n4_; have NHP := n5_; have NHR := n6_; clear n0_ n1_ n2_ n3_ n4_ n5_ n6_; clear hb hbox hg; have hnb := NHP.out; have hnc := NHP.out.symm; have hcn_0 : w7.cell? ⟨nb, 0, none⟩ = some (.int .i64 0) := (blk_cell HN.out 0).trans rfl; have hcn_1 : w7.cell? ⟨nb, 1, none⟩ = some (.nilFunc) := (blk_cell HN.out 1).trans rfl; have hcn_2 : w7.cell? ⟨nb, 2, none⟩ = some (.int .i64 0) := (blk_cell HN.out 2).trans rfl; have hcn_3 : w7.cell? ⟨nb, 3, none⟩ = some (.int .i64 0) := (blk_cell HN.out 3).trans rfl; have hcn_4 : w7.cell? ⟨nb, 4, none⟩ = some (.int .i64 0) := (blk_cell HN.out 4).trans rfl; have hfn_0 := blk_frozen HN.out 0; have hfn_1 := blk_frozen HN.out 1; have hfn_2 := blk_frozen HN.out 2; have hfn_3 := blk_frozen HN.out 3; have hfn_4 := blk_frozen HN.out 4; have hcz_1 : World.cell? w7 ⟨gb, 1, none⟩ = some (.int .i64 a0_1) := (blk_cell HP.out 1).trans rfl) | (go_at_call 144; (with_reducible refine (impl_paramAt1 gb _).mono ?_); rintro e w8 ⟨rfl, hd⟩; obtain ⟨m1, hm1⟩ := hd; subst hm1))
        go_ret
        exact ⟨by first | rfl | (simp; done) | (simp [*]; done), (by repeat (first | (with_reducible first | exact HB.out | apply below_alloc | apply pw_below_drewN | apply below_drew1 | refine below_set ?_ GE.out) | exact HB.out))⟩
      · have q1b : decide (a0_1 < 1200) = false := decide_eq_false q1
        by_cases q2 : 2000 < a0_1
        · have q2b : decide (2000 < a0_1) = true := decide_eq_true q2
          have hx : impl_ParamsOK.okAt a0_0 a0_1 a0_2 a0_3 a0_4 a0_5 a0_6 a0_7 a0_8 1 = false := by show (decide (1200 ≤ a0_1) && decide (a0_1 ≤ 2000)) = false; rw [decide_eq_false (show ¬ a0_1 ≤ 2000 by omega), Bool.and_false]
          have hn : impl_ParamsOK.nums a0_0 a0_1 a0_2 a0_3 a0_4 a0_5 a0_6 a0_7 a0_8 = false := by unfold impl_ParamsOK.nums; rw [hx]; simp
          have hS := HS.out
          clear HS
          rw [hn, if_neg (by simp)] at hS
          obtain rfl := Option.some.inj hS
          clear hS hn hx
          go_wp2_with (first | ((with_reducible refine gate_dst (N := 6) rfl ?_); refine box_event ?hg (N := 6) ?hd (cs := #[.int .i64 0, .nilFunc, .int .i64 0, .int .i64 0, .int .i64 0]) (t := 120) ?hr ?_; (case hd => rfl); (case hg => rfl); (case hr => first | (go_simp; done) | (go_simp; rfl)); intro nb hg w7 hbox hb; have n0_ := Aside0.mk (below_step (by repeat (first | (with_reducible first | exact HB.out | apply below_alloc | apply pw_below_drewN | apply below_drew1 | refine below_set ?_ GE.out) | exact HB.out)) hb); have n1_ := Aside0.mk (blk_below (by (with_reducible repeat (first | exact HP.out | refine blk_drewN ?_ _ | refine blk_drew ?_ | refine blk_alloc ?_ _ | refine blk_far ?_ NHP.out _))) hb); have n2_ := Aside0.mk (blk_below (by (with_reducible repeat (first | exact HR.out | refine blk_drewN ?_ _ | refine blk_drew ?_ | refine blk_alloc ?_ _ | refine blk_far ?_ NHR.out _))) hb); have n3_ := Aside0.mk hbox; have n4_ := Aside0.mk ((by rw [hg]; exact (below_size (by repeat (first | (with_reducible first | exact HB.out | apply below_alloc | apply pw_below_drewN | apply below_drew1 | refine below_set ?_ GE.out) | exact HB.out)))) : w.heap.size ≤ nb); have n5_ := Aside0.mk ((by rw [hg]; exact Nat.ne_of_lt (blk_lt (g := gb) (by (with_reducible repeat (first | exact HP.out | refine blk_drewN ?_ _ | refine blk_drew ?_ | refine blk_alloc ?_ _ | refine blk_far ?_ NHP.out _))))) : gb ≠ nb); have n6_ := Aside0.mk ((by rw [hg]; exact Nat.ne_of_lt (blk_lt (g := rb) (by (with_reducible repeat (first | exact HR.out | refine blk_drewN ?_ _ | refine blk_drew ?_ | refine blk_alloc ?_ _ | refine blk_far ?_ NHR.out _))))) : rb ≠ nb); clear HB HP HR; have HB := n0_; have HP := n1_; have HR := n2_; have HN := n3_; have GE := n4_; have NHP := n5_; have NHR := n6_; clear n0_ n1_ n2_ n3_ n4_ n5_ n6_; clear hb hbox hg; have hnb := NHP.out; have hnc := NHP.out.symm; have hcn_0 : w7.cell? ⟨nb, 0, none⟩ = some (.int .i64 0) := (blk_cell HN.out 0).trans rfl; have hcn_1 : w7.cell? ⟨nb, 1, none⟩ = some (.nilFunc) := (blk_cell HN.out 1).trans rfl; have hcn_2 : w7.cell? ⟨nb, 2, none⟩ = some (.int .i64 0) := (blk_cell HN.out 2).trans rfl; have hcn_3 : w7.cell? ⟨nb, 3, none⟩ = some (.int .i64 0) := (blk_cell HN.out 3).trans rfl; have hcn_4 : w7.cell? ⟨nb, 4, none⟩ = some (.int .i64 0) := (blk_cell HN.out 4).trans rfl; have hfn_0 := blk_frozen HN.out 0; have hfn_1 := blk_frozen HN.out 1; have hfn_2 := blk_frozen HN.out 2; have hfn_3 := blk_frozen HN.out 3; have hfn_4 := blk_frozen HN.out 4; have hcz_1 : World.cell? w7 ⟨gb, 1, none⟩ = some (.int .i64 a0_1) := (blk_cell HP.out 1).trans rfl) | (go_at_call 144; (with_reducible refine (impl_paramAt1 gb _).mono ?_); rintro e w8 ⟨rfl, hd⟩; obtain ⟨m1, hm1⟩ := hd; subst hm1))
          go_ret
          exact ⟨by first | rfl | (simp; done) | (simp [*]; done), (by repeat (first | (with_reducible first | exact HB.out | apply below_alloc | apply pw_below_drewN | apply below_drew1 | refine below_set ?_ GE.out) | exact HB.out))⟩
        · have q2b : decide (2000 < a0_1) = false := decide_eq_false q2
          have hx : impl_ParamsOK.okAt a0_0 a0_1 a0_2 a0_3 a0_4 a0_5 a0_6 a0_7 a0_8 1 = true := by show (decide (1200 ≤ a0_1) && decide (a0_1 ≤ 2000)) = true; rw [decide_eq_true (show 1200 ≤ a0_1 by omega), decide_eq_true (show a0_1 ≤ 2000 by omega)]; rfl
          have HK2 : Aside0 (∀ j < 2, impl_ParamsOK.okAt a0_0 a0_1 a0_2 a0_3 a0_4 a0_5 a0_6 a0_7 a0_8 j = true) := ⟨fun j hj => by by_cases hl : j < 1; exact HK.out j hl; obtain rfl : j = 1 := (by omega); exact hx⟩
          clear hx HK
          go_wp2_with (first | ((with_reducible refine gate_dst (N := 6) rfl ?_); refine box_event ?hg (N := 6) ?hd (cs := #[.int .i64 0, .nilFunc, .int .i64 0, .int .i64 0, .int .i64 0]) (t := 120) ?hr ?_; (case hd => rfl); (case hg => rfl); (case hr => first | (go_simp; done) | (go_simp; rfl)); intro nb hg w7 hbox hb; have n0_ := Aside0.mk (below_step (by repeat (first | (with_reducible first | exact HB.out | apply below_alloc | apply pw_below_drewN | apply below_drew1 | refine below_set ?_ GE.out) | exact HB.out)) hb); have n1_ := Aside0.mk (blk_below (by (with_reducible repeat (first | exact HP.out | refine blk_drewN ?_ _ | refine blk_drew ?_ | refine blk_alloc ?_ _ | refine blk_far ?_ NHP.out _))) hb); have n2_ := Aside0.mk (blk_below (by (with_reducible repeat (first | exact HR.out | refine blk_drewN ?_ _ | refine blk_drew ?_ | refine blk_alloc ?_ _ | refine blk_far ?_ NHR.out _))) hb); have n3_ := Aside0.mk hbox; have n4_ := Aside0.mk ((by rw [hg]; exact (below_size (by repeat (first | (with_reducible first | exact HB.out | apply below_alloc | apply pw_below_drewN | apply below_drew1 | refine below_set ?_ GE.out) | exact HB.out)))) : w.heap.size ≤ nb); have n5_ := Aside0.mk ((by rw [hg]; exact Nat.ne_of_lt (blk_lt (g := gb) (by (with_reducible repeat (first | exact HP.out | refine blk_drewN ?_ _ | refine blk_drew ?_ | refine blk_alloc ?_ _ | refine blk_far ?_ NHP.out _))))) : gb ≠ nb); have n6_ := Aside0.mk ((by rw [hg]; exact Nat.ne_of_lt (blk_lt (g := rb) (by (with_reducible repeat (first | exact HR.out | refine blk_drewN ?_ _ | refine blk_drew ?_ | refine blk_alloc ?_ _ | refine blk_far ?_ NHR.out _))))) : rb ≠ nb); clear HB HP HR; have HB := n0_; have HP := n1_; have HR := n2_; have HN := n3_; have GE := n4_; have NHP := n5_; have NHR := n6_; clear n0_ n1_ n2_ n3_ n4_ n5_ n6_; clear hb hbox hg; have hnb := NHP.out; have hnc := NHP.out.symm; have hcn_0 : w7.cell? ⟨nb, 0, none⟩ = some (.int .i64 0) := (blk_cell HN.out 0).trans rfl; have hcn_1 : w7.cell? ⟨nb, 1, none⟩ = some (.nilFunc) := (blk_cell HN.out 1).trans rfl; have hcn_2 : w7.cell? ⟨nb, 2, none⟩ = some (.int .i64 0) := (blk_cell HN.out 2).trans rfl; have hcn_3 : w7.cell? ⟨nb, 3, none⟩ = some (.int .i64 0) := (blk_cell HN.out 3).trans rfl; have hcn_4 : w7.cell? ⟨nb, 4, none⟩ = some (.int .i64 0) := (blk_cell HN.out 4).trans rfl; have hfn_0 := blk_frozen HN.out 0; have hfn_1 := blk_frozen HN.out 1; have hfn_2 := blk_frozen HN.out 2; have hfn_3 := blk_frozen HN.out 3; have hfn_4 := blk_frozen HN.out 4; have hcz_1 : World.cell? w7 ⟨gb, 1, none⟩ = some (.int .i64 a0_1) := (blk_cell HP.out 1).trans rfl) | (go_at_call 144; (with_reducible refine (impl_paramAt1 gb _).mono ?_); rintro e w8 ⟨rfl, hd⟩; obtain ⟨m1, hm1⟩ := hd; subst hm1))
          go_roundg m
          case measure => omega
          case rel => exact ⟨2, by go_num, ⟨by have := Hi.out; omega⟩, HK2, ⟨(by (with_reducible repeat (first | exact HP.out | refine blk_drewN ?_ _ | refine blk_drew ?_ | refine blk_alloc ?_ _ | refine blk_far ?_ NHP.out _)))⟩, ⟨(by (with_reducible repeat (first | exact HR.out | refine blk_drewN ?_ _ | refine blk_drew ?_ | refine blk_alloc ?_ _ | refine blk_far ?_ NHR.out _)))⟩, ⟨(by repeat (first | (with_reducible first | exact HB.out | apply below_alloc | apply pw_below_drewN | apply below_drew1 | refine below_set ?_ GE.out) | exact HB.out))⟩⟩
    · obtain ⟨m, rfl⟩ : ∃ m, gk = m + 1 := ⟨gk - 1, by have := Hi.out; omega⟩
      have hcr_0 : World.cell? _ ⟨rb, 10, none⟩ = some (.int .i64 4) := (blk_cell HR.out 10).trans (by kernel_rfl)
      have hcr_1 : World.cell? _ ⟨rb, 11, none⟩ = some (.func (.func 145) #[] #[]) := (blk_cell HR.out 11).trans (by kernel_rfl)
      have hcr_2 : World.cell? _ ⟨rb, 12, none⟩ = some (.int .i64 1) := (blk_cell HR.out 12).trans (by kernel_rfl)
      have hcr_3 : World.cell? _ ⟨rb, 13, none⟩ = some (.int .i64 16384) := (blk_cell HR.out 13).trans (by kernel_rfl)
      have hcr_4 : World.cell? _ ⟨rb, 14, none⟩ = some (.int .i64 4096) := (blk_cell HR.out 14).trans (by kernel_rfl)
      have hcz_2 : World.cell? _ ⟨gb, 2, none⟩ = some (.int .i64 a0_2) := (blk_cell HP.out 2).trans rfl
      by_cases q1 : a0_2 < 1
      · have q1b : decide (a0_2 < 1) = true := decide_eq_true q1
        have hx : impl_ParamsOK.okAt a0_0 a0_1 a0_2 a0_3 a0_4 a0_5 a0_6 a0_7 a0_8 2 = false := by show (decide (1 ≤ a0_2) && decide (a0_2 ≤ 16384)) = false; rw [decide_eq_false (by omega), Bool.false_and]
        have hn : impl_ParamsOK.nums a0_0 a0_1 a0_2 a0_3 a0_4 a0_5 a0_6 a0_7 a0_8 = false := by unfold impl_ParamsOK.nums; rw [hx]; simp
        have hS := HS.out
        clear HS
        rw [hn, if_neg (by simp)] at hS
        obtain rfl := Option.some.inj hS
        clear hS hn hx
        go_wp2_with (first | ((with_reducible refine gate_dst (N := 6) rfl ?_); refine box_event ?hg (N := 6) ?hd (cs := #[.int .i64 0, .nilFunc, .int .i64 0, .int .i64 0, .int .i64 0]) (t := 120) ?hr ?_; (case hd => rfl); (case hg => rfl); (case hr => first | (go_simp; done) | (go_simp; rfl)); intro nb hg w7 hbox hb; have n0_ := Aside0.mk (below_step (by repeat (first | (with_reducible first | exact HB.out | apply below_alloc | apply pw_below_drewN | apply below_drew1 | refine below_set ?_ GE.out) | exact HB.out)) hb); have n1_ := Aside0.mk (blk_below (by (with_reducible repeat (first | exact HP.out | refine blk_drewN ?_ _ | refine blk_drew ?_ | refine blk_alloc ?_ _ | refine blk_far ?_ NHP.out _))) hb); have n2_ := Aside0.mk (blk_below (by (with_reducible repeat (first | exact HR.out | refine blk_drewN ?_ _ | refine blk_drew ?_ | refine blk_alloc ?_ _ | refine blk_far ?_ NHR.out _))) hb); have n3_ := Aside0.mk hbox; have n4_ := Aside0.mk ((by rw [hg]; exact (below_size (by repeat (first | (with_reducible first | exact HB.out | apply below_alloc | apply pw_below_drewN | apply below_drew1 | refine below_set ?_ GE.out) | exact HB.out)))) : w.heap.size ≤ nb); have n5_ := Aside0.mk ((by rw [hg]; exact Nat.ne_of_lt (blk_lt (g := gb) (by (with_reducible repeat (first | exact HP.out | refine blk_drewN ?_ _ | refine blk_drew ?_ | refine blk_alloc ?_ _ | refine blk_far ?_ NHP.out _))))) : gb ≠ nb); have n6_ := Aside0.mk ((by rw [hg]; exact Nat.ne_of_lt (blk_lt (g := rb) (by (with_reducible repeat (first | exact HR.out | refine blk_drewN ?_ _ | refine blk_drew ?_ | refine blk_alloc ?_ _ | refine blk_far ?_ NHR.out _))))) : rb ≠ nb); clear HB HP HR; have HB := n0_; have HP := n1_; have HR := n2_; have HN := n3_; have GE := n4_; have NHP := n5_; have NHR := n6_; clear n0_ n1_ n2_ n3_ n4_ n5_ n6_; clear hb hbox hg; have hnb := NHP.out; have hnc := NHP.out.symm; have hcn_0 : w7.cell? ⟨nb, 0, none⟩ = some (.int .i64 0) := (blk_cell HN.out 0).trans rfl; have hcn_1 : w7.cell? ⟨nb, 1, none⟩ = some (.nilFunc) := (blk_cell HN.out 1).trans rfl; have hcn_2 : w7.cell? ⟨nb, 2, none⟩ = some (.int .i64 0) := (blk_cell HN.out 2).trans rfl; have hcn_3 : w7.cell? ⟨nb, 3, none⟩ = some (.int .i64 0) := (blk_cell HN.out 3).trans rfl; have hcn_4 : w7.cell? ⟨nb, 4, none⟩ = some (.int .i64 0) := (blk_cell HN.out 4).trans rfl; have hfn_0 := blk_frozen HN.out 0; have hfn_1 := blk_frozen HN.out 1; have hfn_2 := blk_frozen HN.out 2; have hfn_3 := blk_frozen HN.out 3; have hfn_4 := blk_frozen HN.out 4; have hcz_2 : World.cell? w7 ⟨gb, 2, none⟩ = some (.int .i64 a0_2) := (blk_cell HP.out 2).trans rfl) | (go_at_call 145; (with_reducible refine (impl_paramAt2 gb _).mono ?_); rintro e w8 ⟨rfl, hd⟩; obtain ⟨m1, hm1⟩ := hd; subst hm1))
        go_ret
        exact ⟨by first | rfl | (simp; done) | (simp [*]; done), (by repeat (first | (with_reducible first | exact HB.out | apply below_alloc | apply pw_below_drewN | apply below_drew1 | refine below_set ?_ GE.out) | exact HB.out))⟩
      · have q1b : decide (a0_2 < 1) = false := decide_eq_false q1
        by_cases q2 : 16384 < a0_2
        · have q2b : decide (16384 < a0_2) = true := decide_eq_true q2
          have hx : impl_ParamsOK.okAt a0_0 a0_1 a0_2 a0_3 a0_4 a0_5 a0_6 a0_7 a0_8 2 = false := by show (decide (1 ≤ a0_2) && decide (a0_2 ≤ 16384)) = false; rw [decide_eq_false (show ¬ a0_2 ≤ 16384 by omega), Bool.and_false]
          have hn : impl_ParamsOK.nums a0_0 a0_1 a0_2 a0_3 a0_4 a0_5 a0_6 a0_7 a0_8 = false := by unfold impl_ParamsOK.nums; rw [hx]; simp
          have hS := HS.out
          clear HS
          rw [hn, if_neg (by simp)] at hS
          obtain rfl := Option.some.inj hS
          clear hS hn hx
          go_wp2_with (first | ((with_reducible refine gate_dst (N := 6) rfl ?_); refine box_event ?hg (N := 6) ?hd (cs := #[.int .i64 0, .nilFunc, .int .i64 0, .int .i64 0, .int .i64 0]) (t := 120) ?hr ?_; (case hd => rfl); (case hg => rfl); (case hr => first | (go_simp; done) | (go_simp; rfl)); intro nb hg w7 hbox hb; have n0_ := Aside0.mk (below_step (by repeat (first | (with_reducible first | exact HB.out | apply below_alloc | apply pw_below_drewN | apply below_drew1 | refine below_set ?_ GE.out) | exact HB.out)) hb); have n1_ := Aside0.mk (blk_below (by (with_reducible repeat (first | exact HP.out | refine blk_drewN ?_ _ | refine blk_drew ?_ | refine blk_alloc ?_ _ | refine blk_far ?_ NHP.out _))) hb); have n2_ := Aside0.mk (blk_below (by (with_reducible repeat (first | exact HR.out | refine blk_drewN ?_ _ | refine blk_drew ?_ | refine blk_alloc ?_ _ | refine blk_far ?_ NHR.out _))) hb); have n3_ := Aside0.mk hbox; have n4_ := Aside0.mk ((by rw [hg]; exact (below_size (by repeat (first | (with_reducible first | exact HB.out | apply below_alloc | apply pw_below_drewN | apply below_drew1 | refine below_set ?_ GE.out) | exact HB.out)))) : w.heap.size ≤ nb); have n5_ := Aside0.mk ((by rw [hg]; exact Nat.ne_of_lt (blk_lt (g := gb) (by (with_reducible repeat (first | exact HP.out | refine blk_drewN ?_ _ | refine blk_drew ?_ | refine blk_alloc ?_ _ | refine blk_far ?_ NHP.out _))))) : gb ≠ nb); have n6_ := Aside0.mk ((by rw [hg]; exact Nat.ne_of_lt (blk_lt (g := rb) (by (with_reducible repeat (first | exact HR.out | refine blk_drewN ?_ _ | refine blk_drew ?_ | refine blk_alloc ?_ _ | refine blk_far ?_ NHR.out _))))) : rb ≠ nb); clear HB HP HR; have HB := n0_; have HP := n1_; have HR := n2_; have HN := n3_; have GE := n4_; have NHP := n5_; have NHR := n6_; clear n0_ n1_ n2_ n3_ n4_ n5_ n6_; clear hb hbox hg; have hnb := NHP.out; have hnc := NHP.out.symm; have hcn_0 : w7.cell? ⟨nb, 0, none⟩ = some (.int .i64 0) := (blk_cell HN.out 0).trans rfl; have hcn_1 : w7.cell? ⟨nb, 1, none⟩ = some (.nilFunc) := (blk_cell HN.out 1).trans rfl; have hcn_2 : w7.cell? ⟨nb, 2, none⟩ = some (.int .i64 0) := (blk_cell HN.out 2).trans rfl; have hcn_3 : w7.cell? ⟨nb, 3, none⟩ = some (.int .i64 0) := (blk_cell HN.out 3).trans rfl; have hcn_4 : w7.cell? ⟨nb, 4, none⟩ = some (.int .i64 0) := (blk_cell HN.out 4).trans rfl; have hfn_0 := blk_frozen HN.out 0; have hfn_1 := blk_frozen HN.out 1; have hfn_2 := blk_frozen HN.out 2; have hfn_3 := blk_frozen HN.out 3; have hfn_4 := blk_frozen HN.out 4; have hcz_2 : World.cell? w7 ⟨gb, 2, none⟩ = some (.int .i64 a0_2) := (blk_cell HP.out 2).trans rfl) | (go_at_call 145; (with_reducible refine (impl_paramAt2 gb _).mono ?_); rintro e w8 ⟨rfl, hd⟩; obtain ⟨m1, hm1⟩ := hd; subst hm1))
          go_ret
          exact ⟨by first | rfl | (simp; done) | (simp [*]; done), (by repeat (first | (with_reducible first | exact HB.out | apply below_alloc | apply pw_below_drewN | apply below_drew1 | refine below_set ?_ GE.out) | exact HB.out))⟩
        · have q2b : decide (16384 < a0_2) = false := decide_eq_false q2
          have hx : impl_ParamsOK.okAt a0_0 a0_1 a0_2 a0_3 a0_4 a0_5 a0_6 a0_7 a0_8 2 = true := by show (decide (1 ≤ a0_2) && decide (a0_2 ≤ 16384)) = true; rw [decide_eq_true (show 1 ≤ a0_2 by omega), decide_eq_true (show a0_2 ≤ 16384 by omega)]; rfl
          have HK2 : Aside0 (∀ j < 3, impl_ParamsOK.okAt a0_0 a0_1 a0_2 a0_3 a0_4 a0_5 a0_6 a0_7 a0_8 j = true) := ⟨fun j hj => by by_cases hl : j < 2; exact HK.out j hl; obtain rfl : j = 2 := (by omega); exact hx⟩
          clear hx HK
          go_wp2_with (first | ((with_reducible refine gate_dst (N := 6) rfl ?_); refine box_event ?hg (N := 6) ?hd (cs := #[.int .i64 0, .nilFunc, .int .i64 0, .int .i64 0, .int .i64 0]) (t := 120) ?hr ?_; (case hd => rfl); (case hg => rfl); (case hr => first | (go_simp; done) | (go_simp; rfl)); intro nb hg w7 hbox hb; have n0_ := Aside0.mk (below_step (by repeat (first | (with_reducible first | exact HB.out | apply below_alloc | apply pw_below_drewN | apply below_drew1 | refine below_set ?_ GE.out) | exact HB.out)) hb); have n1_ := Aside0.mk (blk_below (by (with_reducible repeat (first | exact HP.out | refine blk_drewN ?_ _ | refine blk_drew ?_ | refine blk_alloc ?_ _ | refine blk_far ?_ NHP.out _))) hb); have n2_ := Aside0.mk (blk_below (by (with_reducible repeat (first | exact HR.out | refine blk_drewN ?_ _ | refine blk_drew ?_ | refine blk_alloc ?_ _ | refine blk_far ?_ NHR.out _))) hb); have n3_ := Aside0.mk hbox; have n4_ := Aside0.mk ((by rw [hg]; exact (below_size (by repeat (first | (with_reducible first | exact HB.out | apply below_alloc | apply pw_below_drewN | apply below_drew1 | refine below_set ?_ GE.out) | exact HB.out)))) : w.heap.size ≤ nb); have n5_ := Aside0.mk ((by rw [hg]; exact Nat.ne_of_lt (blk_lt (g := gb) (by (with_reducible repeat (first | exact HP.out | refine blk_drewN ?_ _ | refine blk_drew ?_ | refine blk_alloc ?_ _ | refine blk_far ?_ NHP.out _))))) : gb ≠ nb); have n6_ := Aside0.mk ((by rw [hg]; exact Nat.ne_of_lt (blk_lt (g := rb) (by (with_reducible repeat (first | exact HR.out | refine blk_drewN ?_ _ | refine blk_drew ?_ | refine blk_alloc ?_ _ | refine blk_far ?_ NHR.out _))))) : rb ≠ nb); clear HB HP HR; have HB := n0_; have HP := n1_; have HR := n2_; have HN := n3_; have GE := n4_; have NHP := n5_; have NHR := n6_; clear n0_ n1_ n2_ n3_ n4_ n5_ n6_; clear hb hbox hg; have hnb := NHP.out; have hnc := NHP.out.symm; have hcn_0 : w7.cell? ⟨nb, 0, none⟩ = some (.int .i64 0) := (blk_cell HN.out 0).trans rfl; have hcn_1 : w7.cell? ⟨nb, 1, none⟩ = some (.nilFunc) := (blk_cell HN.out 1).trans rfl; have hcn_2 : w7.cell? ⟨nb, 2, none⟩ = some (.int .i64 0) := (blk_cell HN.out 2).trans rfl; have hcn_3 : w7.cell? ⟨nb, 3, none⟩ = some (.int .i64 0) := (blk_cell HN.out 3).trans rfl; have hcn_4 : w7.cell? ⟨nb, 4, none⟩ = some (.int .i64 0) := (blk_cell HN.out 4).trans rfl; have hfn_0 := blk_frozen HN.out 0; have hfn_1 := blk_frozen HN.out 1; have hfn_2 := blk_frozen HN.out 2; have hfn_3 := blk_frozen HN.out 3; have hfn_4 := blk_frozen HN.out 4; have hcz_2 : World.cell? w7 ⟨gb, 2, none⟩ = some (.int .i64 a0_2) := (blk_cell HP.out 2).trans rfl) | (go_at_call 145; (with_reducible refine (impl_paramAt2 gb _).mono ?_); rintro e w8 ⟨rfl, hd⟩; obtain ⟨m1, hm1⟩ := hd; subst hm1))
          go_roundg m
          case measure => omega
          case rel => exact ⟨3, by go_num, ⟨by have := Hi.out; omega⟩, HK2, ⟨(by (with_reducible repeat (first | exact HP.out | refine blk_drewN ?_ _ | refine blk_drew ?_ | refine blk_alloc ?_ _ | refine blk_far ?_ NHP.out _)))⟩, ⟨(by (with_reducible repeat (first | exact HR.out | refine blk_drewN ?_ _ | refine blk_drew ?_ | refine blk_alloc ?_ _ | refine blk_far ?_ NHR.out _)))⟩, ⟨(by repeat (first | (with_reducible first | exact HB.out | apply below_alloc | apply pw_below_drewN | apply below_drew1 | refine below_set ?_ GE.out) | exact HB.out))⟩⟩
    · obtain ⟨m, rfl⟩ : ∃ m, gk = m + 1 := ⟨gk - 1, by have := Hi.out; omega⟩
      have hcr_0 : World.cell? _ ⟨rb, 15, none⟩ = some (.int .i64 5) := (blk_cell HR.out 15).trans (by kernel_rfl)
      have hcr_1 : World.cell? _ ⟨rb, 16, none⟩ = some (.func (.func 146) #[] #[]) := (blk_cell HR.out 16).trans (by kernel_rfl)
      have hcr_2 : World.cell? _ ⟨rb, 17, none⟩ = some (.int .i64 1) := (blk_cell HR.out 17).trans (by kernel_rfl)
      have hcr_3 : World.cell? _ ⟨rb, 18, none⟩ = some (.int .i64 16384) := (blk_cell HR.out 18).trans (by kernel_rfl)
      have hcr_4 : World.cell? _ ⟨rb, 19, none⟩ = some (.int .i64 1024) := (blk_cell HR.out 19).trans (by kernel_rfl)
      have hcz_3 : World.cell? _ ⟨gb, 3, none⟩ = some (.int .i64 a0_3) := (blk_cell HP.out 3).trans rfl
      by_cases q1 : a0_3 < 1
      · have q1b : decide (a0_3 < 1) = true := decide_eq_true q1
        have hx : impl_ParamsOK.okAt a0_0 a0_1 a0_2 a0_3 a0_4 a0_5 a0_6 a0_7 a0_8 3 = false := by show (decide (1 ≤ a0_3) && decide (a0_3 ≤ 16384)) = false; rw [decide_eq_false (by omega), Bool.false_and]
        have hn : impl_ParamsOK.nums a0_0 a0_1 a0_2 a0_3 a0_4 a0_5 a0_6 a0_7 a0_8 = false := by unfold impl_ParamsOK.nums; rw [hx]; simp
        have hS := HS.out
        clear HS
        rw [hn, if_neg (by simp)] at hS
        obtain rfl := Option.some.inj hS
        clear hS hn hx
        go_wp2_with (first | ((with_reducible refine gate_dst (N := 6) rfl ?_); refine box_event ?hg (N := 6) ?hd (cs := #[.int .i64 0, .nilFunc, .int .i64 0, .int .i64 0, .int .i64 0]) (t := 120) ?hr ?_; (case hd => rfl); (case hg => rfl); (case hr => first | (go_simp; done) | (go_simp; rfl)); intro nb hg w7 hbox hb; have n0_ := Aside0.mk (below_step (by repeat (first | (with_reducible first | exact HB.out | apply below_alloc | apply pw_below_drewN | apply below_drew1 | refine below_set ?_ GE.out) | exact HB.out)) hb); have n1_ := Aside0.mk (blk_below (by (with_reducible repeat (first | exact HP.out | refine blk_drewN ?_ _ | refine blk_drew ?_ | refine blk_alloc ?_ _ | refine blk_far ?_ NHP.out _))) hb); have n2_ := Aside0.mk (blk_below (by (with_reducible repeat (first | exact HR.out | refine blk_drewN ?_ _ | refine blk_drew ?_ | refine blk_alloc ?_ _ | refine blk_far ?_ NHR.out _))) hb); have n3_ := Aside0.mk hbox; have n4_ := Aside0.mk ((by rw [hg]; exact (below_size (by repeat (first | (with_reducible first | exact HB.out | apply below_alloc | apply pw_below_drewN | apply below_drew1 | refine below_set ?_ GE.out) | exact HB.out)))) : w.heap.size ≤ nb); have n5_ := Aside0.mk ((by rw [hg]; exact Nat.ne_of_lt (blk_lt (g := gb) (by (with_reducible repeat (first | exact HP.out | refine blk_drewN ?_ _ | refine blk_drew ?_ | refine blk_alloc ?_ _ | refine blk_far ?_ NHP.out _))))) : gb ≠ nb); have n6_ := Aside0.mk ((by rw [hg]; exact Nat.ne_of_lt (blk_lt (g := rb) (by (with_reducible repeat (first | exact HR.out | refine blk_drewN ?_ _ | refine blk_drew ?_ | refine blk_alloc ?_ _ | refine blk_far ?_ NHR.out _))))) : rb ≠ nb); clear HB HP HR; have HB := n0_; have HP := n1_; have HR := n2_; have HN := n3_; have GE := n4_; have NHP := n5_; have NHR := n6_; clear n0_ n1_ n2_ n3_ n4_ n5_ n6_; clear hb hbox hg; have hnb := NHP.out; have hnc := NHP.out.symm; have hcn_0 : w7.cell? ⟨nb, 0, none⟩ = some (.int .i64 0) := (blk_cell HN.out 0).trans rfl; have hcn_1 : w7.cell? ⟨nb, 1, none⟩ = some (.nilFunc) := (blk_cell HN.out 1).trans rfl; have hcn_2 : w7.cell? ⟨nb, 2, none⟩ = some (.int .i64 0) := (blk_cell HN.out 2).trans rfl; have hcn_3 : w7.cell? ⟨nb, 3, none⟩ = some (.int .i64 0) := (blk_cell HN.out 3).trans rfl; have hcn_4 : w7.cell? ⟨nb, 4, none⟩ = some (.int .i64 0) := (blk_cell HN.out 4).trans rfl; have hfn_0 := blk_frozen HN.out 0; have hfn_1 := blk_frozen HN.out 1; have hfn_2 := blk_frozen HN.out 2; have hfn_3 := blk_frozen HN.out 3; have hfn_4 := blk_frozen HN.out 4; have hcz_3 : World.cell? w7 ⟨gb, 3, none⟩ = some (.int .i64 a0_3) := (blk_cell HP.out 3).trans rfl) | (go_at_call 146; (with_reducible refine (impl_paramAt3 gb _).mono ?_); rintro e w8 ⟨rfl, hd⟩; obtain ⟨m1, hm1⟩ := hd; subst hm1))
        go_ret
        exact ⟨by first | rfl | (simp; done) | (simp [*]; done), (by repeat (first | (with_reducible first | exact HB.out | apply below_alloc | apply pw_below_drewN | apply below_drew1 | refine below_set ?_ GE.out) | exact HB.out))⟩
      · have q1b : decide (a0_3 < 1) = false := decide_eq_false q1
        by_cases q2 : 16384 < a0_3
        · have q2b : decide (16384 < a0_3) = true := decide_eq_true q2
          have hx : impl_ParamsOK.okAt a0_0 a0_1 a0_2 a0_3 a0_4 a0_5 a0_6 a0_7 a0_8 3 = false := by show (decide (1 ≤ a0_3) && decide (a0_3 ≤ 16384)) = false; rw [decide_eq_false (show ¬ a0_3 ≤ 16384 by omega), Bool.and_false]
          have hn : impl_ParamsOK.nums a0_0 a0_1 a0_2 a0_3 a0_4 a0_5 a0_6 a0_7 a0_8 = false := by unfold impl_ParamsOK.nums; rw [hx]; simp
          have hS := HS.out
          clear HS
          rw [hn, if_neg (by simp)] at hS
          obtain rfl := Option.some.inj hS
          clear hS hn hx
          go_wp2_with (first | ((with_reducible refine gate_dst (N := 6) rfl ?_); refine box_event ?hg (N := 6) ?hd (cs := #[.int .i64 0, .nilFunc, .int .i64 0, .int .i64 0, .int .i64 0]) (t := 120) ?hr ?_; (case hd => rfl); (case hg => rfl); (case hr => first | (go_simp; done) | (go_simp; rfl)); intro nb hg w7 hbox hb; have n0_ := Aside0.mk (below_step (by repeat (first | (with_reducible first | exact HB.out | apply below_alloc | apply pw_below_drewN | apply below_drew1 | refine below_set ?_ GE.out) | exact HB.out)) hb); have n1_ := Aside0.mk (blk_below (by (with_reducible repeat (first | exact HP.out | refine blk_drewN ?_ _ | refine blk_drew ?_ | refine blk_alloc ?_ _ | refine blk_far ?_ NHP.out _))) hb); have n2_ := Aside0.mk (blk_below (by (with_reducible repeat (first | exact HR.out | refine blk_drewN ?_ _ | refine blk_drew ?_ | refine blk_alloc ?_ _ | refine blk_far ?_ NHR.out _))) hb); have n3_ := Aside0.mk hbox; have n4_ := Aside0.mk ((by rw [hg]; exact (below_size (by repeat (first | (with_reducible first | exact HB.out | apply below_alloc | apply pw_below_drewN | apply below_drew1 | refine below_set ?_ GE.out) | exact HB.out)))) : w.heap.size ≤ nb); have n5_ := Aside0.mk ((by rw [hg]; exact Nat.ne_of_lt (blk_lt (g := gb) (by (with_reducible repeat (first | exact HP.out | refine blk_drewN ?_ _ | refine blk_drew ?_ | refine blk_alloc ?_ _ | refine blk_far ?_ NHP.out _))))) : gb ≠ nb); have n6_ := Aside0.mk ((by rw [hg]; exact Nat.ne_of_lt (blk_lt (g := rb) (by (with_reducible repeat (first | exact HR.out | refine blk_drewN ?_ _ | refine blk_drew ?_ | refine blk_alloc ?_ _ | refine blk_far ?_ NHR.out _))))) : rb ≠ nb); clear HB HP HR; have HB := n0_; have HP := n1_; have HR := n2_; have HN := n3_; have GE := n4_; have NHP := n5_; have NHR := n6_; clear n0_ n1_ n2_ n3_ n4_ n5_ n6_; clear hb hbox hg; have hnb := NHP.out; have hnc := NHP.out.symm; have hcn_0 : w7.cell? ⟨nb, 0, none⟩ = some (.int .i64 0) := (blk_cell HN.out 0).trans rfl; have hcn_1 : w7.cell? ⟨nb, 1, none⟩ = some (.nilFunc) := (blk_cell HN.out 1).trans rfl; have hcn_2 : w7.cell? ⟨nb, 2, none⟩ = some (.int .i64 0) := (blk_cell HN.out 2).trans rfl; have hcn_3 : w7.cell? ⟨nb, 3, none⟩ = some (.int .i64 0) := (blk_cell HN.out 3).trans rfl; have hcn_4 : w7.cell? ⟨nb, 4, none⟩ = some (.int .i64 0) := (blk_cell HN.out 4).trans rfl; have hfn_0 := blk_frozen HN.out 0; have hfn_1 := blk_frozen HN.out 1; have hfn_2 := blk_frozen HN.out 2; have hfn_3 := blk_frozen HN.out 3; have hfn_4 := blk_frozen HN.out 4; have hcz_3 : World.cell? w7 ⟨gb, 3, none⟩ = some (.int .i64 a0_3) := (blk_cell HP.out 3).trans rfl) | (go_at_call 146; (with_reducible refine (impl_paramAt3 gb _).mono ?_); rintro e w8 ⟨rfl, hd⟩; obtain ⟨m1, hm1⟩ := hd; subst hm1))
          go_ret
          exact ⟨by first | rfl | (simp; done) | (simp [*]; done), (by repeat (first | (with_reducible first | exact HB.out | apply below_alloc | apply pw_below_drewN | apply below_drew1 | refine below_set ?_ GE.out) | exact HB.out))⟩
        · have q2b : decide (16384 < a0_3) = false := decide_eq_false q2
          have hx : impl_ParamsOK.okAt a0_0 a0_1 a0_2 a0_3 a0_4 a0_5 a0_6 a0_7 a0_8 3 = true := by show (decide (1 ≤ a0_3) && decide (a0_3 ≤ 16384)) = true; rw [decide_eq_true (show 1 ≤ a0_3 by omega), decide_eq_true (show a0_3 ≤ 16384 by omega)]; rfl
          have HK2 : Aside0 (∀ j < 4, impl_ParamsOK.okAt a0_0 a0_1 a0_2 a0_3 a0_4 a0_5 a0_6 a0_7 a0_8 j = true) := ⟨fun j hj => by by_cases hl : j < 3; exact HK.out j hl; obtain rfl : j = 3 := (by omega); exact hx⟩
          clear hx HK
          go_wp2_with (first | ((with_reducible refine gate_dst (N := 6) rfl ?_); refine box_event ?hg (N := 6) ?hd (cs := #[.int .i64 0, .nilFunc, .int .i64 0, .int .i64 0, .int .i64 0]) (t := 120) ?hr ?_; (case hd => rfl); (case hg => rfl); (case hr => first | (go_simp; done) | (go_simp; rfl)); intro nb hg w7 hbox hb; have n0_ := Aside0.mk (below_step (by repeat (first | (with_reducible first | exact HB.out | apply below_alloc | apply pw_below_drewN | apply below_drew1 | refine below_set ?_ GE.out) | exact HB.out)) hb); have n1_ := Aside0.mk (blk_below (by (with_reducible repeat (first | exact HP.out | refine blk_drewN ?_ _ | refine blk_drew ?_ | refine blk_alloc ?_ _ | refine blk_far ?_ NHP.out _))) hb); have n2_ := Aside0.mk (blk_below (by (with_reducible repeat (first | exact HR.out | refine blk_drewN ?_ _ | refine blk_drew ?_ | refine blk_alloc ?_ _ | refine blk_far ?_ NHR.out _))) hb); have n3_ := Aside0.mk hbox; have n4_ := Aside0.mk ((by rw [hg]; exact (below_size (by repeat (first | (with_reducible first | exact HB.out | apply below_alloc | apply pw_below_drewN | apply below_drew1 | refine below_set ?_ GE.out) | exact HB.out)))) : w.heap.size ≤ nb); have n5_ := Aside0.mk ((by rw [hg]; exact Nat.ne_of_lt (blk_lt (g := gb) (by (with_reducible repeat (first | exact HP.out | refine blk_drewN ?_ _ | refine blk_drew ?_ | refine blk_alloc ?_ _ | refine blk_far ?_ NHP.out _))))) : gb ≠ nb); have n6_ := Aside0.mk ((by rw [hg]; exact Nat.ne_of_lt (blk_lt (g := rb) (by (with_reducible repeat (first | exact HR.out | refine blk_drewN ?_ _ | refine blk_drew ?_ | refine blk_alloc ?_ _ | refine blk_far ?_ NHR.out _))))) : rb ≠ nb); clear HB HP HR; have HB := n0_; have HP := n1_; have HR := n2_; have HN := n3_; have GE := n4_; have NHP := n5_; have NHR := n6_; clear n0_ n1_ n2_ n3_ n4_ n5_ n6_; clear hb hbox hg; have hnb := NHP.out; have hnc := NHP.out.symm; have hcn_0 : w7.cell? ⟨nb, 0, none⟩ = some (.int .i64 0) := (blk_cell HN.out 0).trans rfl; have hcn_1 : w7.cell? ⟨nb, 1, none⟩ = some (.nilFunc) := (blk_cell HN.out 1).trans rfl; have hcn_2 : w7.cell? ⟨nb, 2, none⟩ = some (.int .i64 0) := (blk_cell HN.out 2).trans rfl; have hcn_3 : w7.cell? ⟨nb, 3, none⟩ = some (.int .i64 0) := (blk_cell HN.out 3).trans rfl; have hcn_4 : w7.cell? ⟨nb, 4, none⟩ = some (.int .i64 0) := (blk_cell HN.out 4).trans rfl; have hfn_0 := blk_frozen HN.out 0; have hfn_1 := blk_frozen HN.out 1; have hfn_2 := blk_frozen HN.out 2; have hfn_3 := blk_frozen HN.out 3; have hfn_4 := blk_frozen HN.out 4; have hcz_3 : World.cell? w7 ⟨gb, 3, none⟩ = some (.int .i64 a0_3) := (blk_cell HP.out 3).trans rfl) | (go_at_call 146; (with_reducible refine (impl_paramAt3 gb _).mono ?_); rintro e w8 ⟨rfl, hd⟩; obtain ⟨m1, hm1⟩ := hd; subst hm1))
          go_roundg m
          case measure => omega
          case rel => exact ⟨4, by go_num, ⟨by have := Hi.out; omega⟩, HK2, ⟨(by (with_reducible repeat (first | exact HP.out | refine blk_drewN ?_ _ | refine blk_drew ?_ | refine blk_alloc ?_ _ | refine blk_far ?_ NHP.out _)))⟩, ⟨(by (with_reducible repeat (first | exact HR.out | refine blk_drewN ?_ _ | refine blk_drew ?_ | refine blk_alloc ?_ _ | refine blk_far ?_ NHR.out _)))⟩, ⟨(by repeat (first | (with_reducible first | exact HB.out | apply below_alloc | apply pw_below_drewN | apply below_drew1 | refine below_set ?_ GE.out) | exact HB.out))⟩⟩
    · obtain ⟨m, rfl⟩ : ∃ m, gk = m + 1 := ⟨gk - 1, by have := Hi.out; omega⟩
      have hcr_0 : World.cell? _ ⟨rb, 20, none⟩ = some (.int .i64 8) := (blk_cell HR.out 20).trans (by kernel_rfl)
      have hcr_1 : World.cell? _ ⟨rb, 21, none⟩ = some (.func (.func 147) #[] #[]) := (blk_cell HR.out 21).trans (by kernel_rfl)
      have hcr_2 : World.cell? _ ⟨rb, 22, none⟩ = some (.int .i64 0) := (blk_cell HR.out 22).trans (by kernel_rfl)
      have hcr_3 : World.cell? _ ⟨rb, 23, none⟩ = some (.int .i64 64) := (blk_cell HR.out 23).trans (by kernel_rfl)
      have hcr_4 : World.cell? _ ⟨rb, 24, none⟩ = some (.int .i64 4) := (blk_cell HR.out 24).trans (by kernel_rfl)
      have hcz_4 : World.cell? _ ⟨gb, 4, none⟩ = some (.int .i64 a0_4) := (blk_cell HP.out 4).trans rfl
      by_cases q1 : a0_4 < 0
      · have q1b : decide (a0_4 < 0) = true := decide_eq_true q1
        have hx : impl_ParamsOK.okAt a0_0 a0_1 a0_2 a0_3 a0_4 a0_5 a0_6 a0_7 a0_8 4 = false := by show (decide (0 ≤ a0_4) && decide (a0_4 ≤ 64)) = false; rw [decide_eq_false (by omega), Bool.false_and]
        have hn : impl_ParamsOK.nums a0_0 a0_1 a0_2 a0_3 a0_4 a0_5 a0_6 a0_7 a0_8 = false := by unfold impl_ParamsOK.nums; rw [hx]; simp
        have hS := HS.out
        clear HS
        rw [hn, if_neg (by simp)] at hS
        obtain rfl := Option.some.inj hS
        clear hS hn hx
        go_wp2_with (first | ((with_reducible refine gate_dst (N := 6) rfl ?_); refine box_event ?hg (N := 6) ?hd (cs := #[.int .i64 0, .nilFunc, .int .i64 0, .int .i64 0, .int .i64 0]) (t := 120) ?hr ?_; (case hd => rfl); (case hg => rfl); (case hr => first | (go_simp; done) | (go_simp; rfl)); intro nb hg w7 hbox hb; have n0_ := Aside0.mk (below_step (by repeat (first | (with_reducible first | exact HB.out | apply below_alloc | apply pw_below_drewN | apply below_drew1 | refine below_set ?_ GE.out) | exact HB.out)) hb); have n1_ := Aside0.mk (blk_below (by (with_reducible repeat (first | exact HP.out | refine blk_drewN ?_ _ | refine blk_drew ?_ | refine blk_alloc ?_ _ | refine blk_far ?_ NHP.out _))) hb); have n2_ := Aside0.mk (blk_below (by (with_reducible repeat (first | exact HR.out | refine blk_drewN ?_ _ | refine blk_drew ?_ | refine blk_alloc ?_ _ | refine blk_far ?_ NHR.out _))) hb); have n3_ := Aside0.mk hbox; have n4_ := Aside0.mk ((by rw [hg]; exact (below_size (by repeat (first | (with_reducible first | exact HB.out | apply below_alloc | apply pw_below_drewN | apply below_drew1 | refine below_set ?_ GE.out) | exact HB.out)))) : w.heap.size ≤ nb); have n5_ := Aside0.mk ((by rw [hg]; exact Nat.ne_of_lt (blk_lt (g := gb) (by (with_reducible repeat (first | exact HP.out | refine blk_drewN ?_ _ | refine blk_drew ?_ | refine blk_alloc ?_ _ | refine blk_far ?_ NHP.out _))))) : gb ≠ nb); have n6_ := Aside0.mk ((by rw [hg]; exact Nat.ne_of_lt (blk_lt (g := rb) (by (with_reducible repeat (first | exact HR.out | refine blk_drewN ?_ _ | refine blk_drew ?_ | refine blk_alloc ?_ _ | refine blk_far ?_ NHR.out _))))) : rb ≠ nb); clear HB HP HR; have HB := n0_; have HP := n1_; have HR := n2_; have HN := n3_; have GE := n4_; have NHP := n5_; have NHR := n6_; clear n0_ n1_ n2_ n3_ n4_ n5_ n6_; clear hb hbox hg; have hnb := NHP.out; have hnc := NHP.out.symm; have hcn_0 : w7.cell? ⟨nb, 0, none⟩ = some (.int .i64 0) := (blk_cell HN.out 0).trans rfl; have hcn_1 : w7.cell? ⟨nb, 1, none⟩ = some (.nilFunc) := (blk_cell HN.out 1).trans rfl; have hcn_2 : w7.cell? ⟨nb, 2, none⟩ = some (.int .i64 0) := (blk_cell HN.out 2).trans rfl; have hcn_3 : w7.cell? ⟨nb, 3, none⟩ = some (.int .i64 0) := (blk_cell HN.out 3).trans rfl; have hcn_4 : w7.cell? ⟨nb, 4, none⟩ = some (.int .i64 0) := (blk_cell HN.out 4).trans rfl; have hfn_0 := blk_frozen HN.out 0; have hfn_1 := blk_frozen HN.out 1; have hfn_2 := blk_frozen HN.out 2; have hfn_3 := blk_frozen HN.out 3; have hfn_4 := blk_frozen HN.out 4; have hcz_4 : World.cell? w7 ⟨gb, 4, none⟩ = some (.int .i64 a0_4) := (blk_cell HP.out 4).trans rfl) | (go_at_call 147; (with_reducible refine (impl_paramAt4 gb _).mono ?_); rintro e w8 ⟨rfl, hd⟩; obtain ⟨m1, hm1⟩ := hd; subst hm1))
        go_ret
        exact ⟨by first | rfl | (simp; done) | (simp [*]; done), (by repeat (first | (with_reducible first | exact HB.out | apply below_alloc | apply pw_below_drewN | apply below_drew1 | refine below_set ?_ GE.out) | exact HB.out))⟩
      · have q1b : decide (a0_4 < 0) = false := decide_eq_false q1
        by_cases q2 : 64 < a0_4
        · have q2b : decide (64 < a0_4) = true := decide_eq_true q2
          have hx : impl_ParamsOK.okAt a0_0 a0_1 a0_2 a0_3 a0_4 a0_5 a0_6 a0_7 a0_8 4 = false := by show (decide (0 ≤ a0_4) && decide (a0_4 ≤ 64)) = false; rw [decide_eq_false (show ¬ a0_4 ≤ 64 by omega), Bool.and_false]
          have hn : impl_ParamsOK.nums a0_0 a0_1 a0_2 a0_3 a0_4 a0_5 a0_6 a0_7 a0_8 = false := by unfold impl_ParamsOK.nums; rw [hx]; simp
          have hS := HS.out
          clear HS
          rw [hn, if_neg (by simp)] at hS
          obtain rfl := Option.some.inj hS
          clear hS hn hx
          go_wp2_with (first | ((with_reducible refine gate_dst (N := 6) rfl ?_); refine box_event ?hg (N := 6) ?hd (cs := #[.int .i64 0, .nilFunc, .int .i64 0, .int .i64 0, .int .i64 0]) (t := 120) ?hr ?_; (case hd => rfl); (case hg => rfl); (case hr => first | (go_simp; done) | (go_simp; rfl)); intro nb hg w7 hbox hb; have n0_ := Aside0.mk (below_step (by repeat (first | (with_reducible first | exact HB.out | apply below_alloc | apply pw_below_drewN | apply below_drew1 | refine below_set ?_ GE.out) | exact HB.out)) hb); have n1_ := Aside0.mk (blk_below (by (with_reducible repeat (first | exact HP.out | refine blk_drewN ?_ _ | refine blk_drew ?_ | refine blk_alloc ?_ _ | refine blk_far ?_ NHP.out _))) hb); have n2_ := Aside0.mk (blk_below (by (with_reducible repeat (first | exact HR.out | refine blk_drewN ?_ _ | refine blk_drew ?_ | refine blk_alloc ?_ _ | refine blk_far ?_ NHR.out _))) hb); have n3_ := Aside0.mk hbox; have n4_ := Aside0.mk ((by rw [hg]; exact (below_size (by repeat (first | (with_reducible first | exact HB.out | apply below_alloc | apply pw_below_drewN | apply below_drew1 | refine below_set ?_ GE.out) | exact HB.out)))) : w.heap.size ≤ nb); have n5_ := Aside0.mk ((by rw [hg]; exact Nat.ne_of_lt (blk_lt (g := gb) (by (with_reducible repeat (first | exact HP.out | refine blk_drewN ?_ _ | refine blk_drew ?_ | refine blk_alloc ?_ _ | refine blk_far ?_ NHP.out _))))) : gb ≠ nb); have n6_ := Aside0.mk ((by rw [hg]; exact Nat.ne_of_lt (blk_lt (g := rb) (by (with_reducible repeat (first | exact HR.out | refine blk_drewN ?_ _ | refine blk_drew ?_ | refine blk_alloc ?_ _ | refine blk_far ?_ NHR.out _))))) : rb ≠ nb); clear HB HP HR; have HB := n0_; have HP := n1_; have HR := n2_; have HN := n3_; have GE := n4_; have NHP := n5_; have NHR := n6_; clear n0_ n1_ n2_ n3_ n4_ n5_ n6_; clear hb hbox hg; have hnb := NHP.out; have hnc := NHP.out.symm; have hcn_0 : w7.cell? ⟨nb, 0, none⟩ = some (.int .i64 0) := (blk_cell HN.out 0).trans rfl; have hcn_1 : w7.cell? ⟨nb, 1, none⟩ = some (.nilFunc) := (blk_cell HN.out 1).trans rfl; have hcn_2 : w7.cell? ⟨nb, 2, none⟩ = some (.int .i64 0) := (blk_cell HN.out 2).trans rfl; have hcn_3 : w7.cell? ⟨nb, 3, none⟩ = some (.int .i64 0) := (blk_cell HN.out 3).trans rfl; have hcn_4 : w7.cell? ⟨nb, 4, none⟩ = some (.int .i64 0) := (blk_cell HN.out 4).trans rfl; have hfn_0 := blk_frozen HN.out 0; have hfn_1 := blk_frozen HN.out 1; have hfn_2 := blk_frozen HN.out 2; have hfn_3 := blk_frozen HN.out 3; have hfn_4 := blk_frozen HN.out 4; have hcz_4 : World.cell? w7 ⟨gb, 4, none⟩ = some (.int .i64 a0_4) := (blk_cell HP.out 4).trans rfl) | (go_at_call 147; (with_reducible refine (impl_paramAt4 gb _).mono ?_); rintro e w8 ⟨rfl, hd⟩; obtain ⟨m1, hm1⟩ := hd; subst hm1))
          go_ret
          exact ⟨by first | rfl | (simp; done) | (simp [*]; done), (by repeat (first | (with_reducible first | exact HB.out | apply below_alloc | apply pw_below_drewN | apply below_drew1 | refine below_set ?_ GE.out) | exact HB.out))⟩
        · have q2b : decide (64 < a0_4) = false := decide_eq_false q2
          have hx : impl_ParamsOK.okAt a0_0 a0_1 a0_2 a0_3 a0_4 a0_5 a0_6 a0_7 a0_8 4 = true := by show (decide (0 ≤ a0_4) && decide (a0_4 ≤ 64)) = true; rw [decide_eq_true (show 0 ≤ a0_4 by omega), decide_eq_true (show a0_4 ≤ 64 by omega)]; rfl
          have HK2 : Aside0 (∀ j < 5, impl_ParamsOK.okAt a0_0 a0_1 a0_2 a0_3 a0_4 a0_5 a0_6 a0_7 a0_8 j = true) := ⟨fun j hj => by by_cases hl : j < 4; exact HK.out j hl; obtain rfl : j = 4 := (by omega); exact hx⟩
          clear hx HK
          go_wp2_with (first | ((with_reducible refine gate_dst (N := 6) rfl ?_); refine box_event ?hg (N := 6) ?hd (cs := #[.int .i64 0, .nilFunc, .int .i64 0, .int .i64 0, .int .i64 0]) (t := 120) ?hr ?_; (case hd => rfl); (case hg => rfl); (case hr => first | (go_simp; done) | (go_simp; rfl)); intro nb hg w7 hbox hb; have n0_ := Aside0.mk (below_step (by repeat (first | (with_reducible first | exact HB.out | apply below_alloc | apply pw_below_drewN | apply below_drew1 | refine below_set ?_ GE.out) | exact HB.out)) hb); have n1_ := Aside0.mk (blk_below (by (with_reducible repeat (first | exact HP.out | refine blk_drewN ?_ _ | refine blk_drew ?_ | refine blk_alloc ?_ _ | refine blk_far ?_ NHP.out _))) hb); have n2_ := Aside0.mk (blk_below (by (with_reducible repeat (first | exact HR.out | refine blk_drewN ?_ _ | refine blk_drew ?_ | refine blk_alloc ?_ _ | refine blk_far ?_ NHR.out _))) hb); have n3_ := Aside0.mk hbox; have n4_ := Aside0.mk ((by rw [hg]; exact (below_size (by repeat (first | (with_reducible first | exact HB.out | apply below_alloc | apply pw_below_drewN | apply below_drew1 | refine below_set ?_ GE.out) | exact HB.out)))) : w.heap.size ≤ nb); have n5_ := Aside0.mk ((by rw [hg]; exact Nat.ne_of_lt (blk_lt (g := gb) (by (with_reducible repeat (first | exact HP.out | refine blk_drewN ?_ _ | refine blk_drew ?_ | refine blk_alloc ?_ _ | refine blk_far ?_ NHP.out _))))) : gb ≠ nb); have n6_ := Aside0.mk ((by rw [hg]; exact Nat.ne_of_lt (blk_lt (g := rb) (by (with_reducible repeat (first | exact HR.out | refine blk_drewN ?_ _ | refine blk_drew ?_ | refine blk_alloc ?_ _ | refine blk_far ?_ NHR.out _))))) : rb ≠ nb); clear HB HP HR; have HB := n0_; have HP := n1_; have HR := n2_; have HN := n3_; have GE := n4_; have NHP := n5_; have NHR := n6_; clear n0_ n1_ n2_ n3_ n4_ n5_ n6_; clear hb hbox hg; have hnb := NHP.out; have hnc := NHP.out.symm; have hcn_0 : w7.cell? ⟨nb, 0, none⟩ = some (.int .i64 0) := (blk_cell HN.out 0).trans rfl; have hcn_1 : w7.cell? ⟨nb, 1, none⟩ = some (.nilFunc) := (blk_cell HN.out 1).trans rfl; have hcn_2 : w7.cell? ⟨nb, 2, none⟩ = some (.int .i64 0) := (blk_cell HN.out 2).trans rfl; have hcn_3 : w7.cell? ⟨nb, 3, none⟩ = some (.int .i64 0) := (blk_cell HN.out 3).trans rfl; have hcn_4 : w7.cell? ⟨nb, 4, none⟩ = some (.int .i64 0) := (blk_cell HN.out 4).trans rfl; have hfn_0 := blk_frozen HN.out 0; have hfn_1 := blk_frozen HN.out 1; have hfn_2 := blk_frozen HN.out 2; have hfn_3 := blk_frozen HN.out 3; have hfn_4 := blk_frozen HN.out 4; have hcz_4 : World.cell? w7 ⟨gb, 4, none⟩ = some (.int .i64 a0_4) := (blk_cell HP.out 4).trans rfl) | (go_at_call 147; (with_reducible refine (impl_paramAt4 gb _).mono ?_); rintro e w8 ⟨rfl, hd⟩; obtain ⟨m1, hm1⟩ := hd; subst hm1))
          go_roundg m
          case measure => omega
          case rel => exact ⟨5, by go_num, ⟨by have := Hi.out; omega⟩, HK2, ⟨(by (with_reducible repeat (first | exact HP.out | refine blk_drewN ?_ _ | refine blk_drew ?_ | refine blk_alloc ?_ _ | refine blk_far ?_ NHP.out _)))⟩, ⟨(by (with_reducible repeat (first | exact HR.out | refine blk_drewN ?_ _ | refine blk_drew ?_ | refine blk_alloc ?_ _ | refine blk_far ?_ NHR.out _)))⟩, ⟨(by repeat (first | (with_reducible first | exact HB.out | apply below_alloc | apply pw_below_drewN | apply below_drew1 | refine below_set ?_ GE.out) | exact HB.out))⟩⟩
    · obtain ⟨m, rfl⟩ : ∃ m, gk = m + 1 := ⟨gk - 1, by have := Hi.out; omega⟩
      have hcr_0 : World.cell? _ ⟨rb, 25, none⟩ = some (.int .i64 9) := (blk_cell HR.out 25).trans (by kernel_rfl)
      have hcr_1 : World.cell? _ ⟨rb, 26, none⟩ = some (.func (.func 148) #[] #[]) := (blk_cell HR.out 26).trans (by kernel_rfl)
      have hcr_2 : World.cell? _ ⟨rb, 27, none⟩ = some (.int .i64 0) := (blk_cell HR.out 27).trans (by kernel_rfl)
      have hcr_3 : World.cell? _ ⟨rb, 28, none⟩ = some (.int .i64 64) := (blk_cell HR.out 28).trans (by kernel_rfl)
      have hcr_4 : World.cell? _ ⟨rb, 29, none⟩ = some (.int .i64 4) := (blk_cell HR.out 29).trans (by kernel_rfl)
      have hcz_5 : World.cell? _ ⟨gb, 5, none⟩ = some (.int .i64 a0_5) := (blk_cell HP.out 5).trans rfl
      by_cases q1 : a0_5 < 0
      · have q1b : decide (a0_5 < 0) = true := decide_eq_true q1
        have hx : impl_ParamsOK.okAt a0_0 a0_1 a0_2 a0_3 a0_4 a0_5 a0_6 a0_7 a0_8 5 = false := by show (decide (0 ≤ a0_5) && decide (a0_5 ≤ 64)) = false; rw [decide_eq_false (by omega), Bool.false_and]
        have hn : impl_ParamsOK.nums a0_0 a0_1 a0_2 a0_3 a0_4 a0_5 a0_6 a0_7 a0_8 = false := by unfold impl_ParamsOK.nums; rw [hx]; simp
        have hS := HS.out
        clear HS
        rw [hn, if_neg (by simp)] at hS
        obtain rfl := Option.some.inj hS
        clear hS hn hx
        go_wp2_with (first | ((with_reducible refine gate_dst (N := 6) rfl ?_); refine box_event ?hg (N := 6) ?hd (cs := #[.int .i64 0, .nilFunc, .int .i64 0, .int .i64 0, .int .i64 0]) (t := 120) ?hr ?_; (case hd => rfl); (case hg => rfl); (case hr => first | (go_simp; done) | (go_simp; rfl)); intro nb hg w7 hbox hb; have n0_ := Aside0.mk (below_step (by repeat (first | (with_reducible first | exact HB.out | apply below_alloc | apply pw_below_drewN | apply below_drew1 | refine below_set ?_ GE.out) | exact HB.out)) hb); have n1_ := Aside0.mk (blk_below (by (with_reducible repeat (first | exact HP.out | refine blk_drewN ?_ _ | refine blk_drew ?_ | refine blk_alloc ?_ _ | refine blk_far ?_ NHP.out _))) hb); have n2_ := Aside0.mk (blk_below (by (with_reducible repeat (first | exact HR.out | refine blk_drewN ?_ _ | refine blk_drew ?_ | refine blk_alloc ?_ _ | refine blk_far ?_ NHR.out _))) hb); have n3_ := Aside0.mk hbox; have n4_ := Aside0.mk ((by rw [hg]; exact (below_size (by repeat (first | (with_reducible first | exact HB.out | apply below_alloc | apply pw_below_drewN | apply below_drew1 | refine below_set ?_ GE.out) | exact HB.out)))) : w.heap.size ≤ nb); have n5_ := Aside0.mk ((by rw [hg]; exact Nat.ne_of_lt (blk_lt (g := gb) (by (with_reducible repeat (first | exact HP.out | refine blk_drewN ?_ _ | refine blk_drew ?_ | refine blk_alloc ?_ _ | refine blk_far ?_ NHP.out _))))) : gb ≠ nb); have n6_ := Aside0.mk ((by rw [hg]; exact Nat.ne_of_lt (blk_lt (g := rb) (by (with_reducible repeat (first | exact HR.out | refine blk_drewN ?_ _ | refine blk_drew ?_ | refine blk_alloc ?_ _ | refine blk_far ?_ NHR.out _))))) : rb ≠ nb); clear HB HP HR; have HB := n0_; have HP := n1_; have HR := n2_; have HN := n3_; have GE := n4_; have NHP := n5_; have NHR := n6_; clear n0_ n1_ n2_ n3_ n4_ n5_ n6_; clear hb hbox hg; have hnb := NHP.out; have hnc := NHP.out.symm; have hcn_0 : w7.cell? ⟨nb, 0, none⟩ = some (.int .i64 0) := (blk_cell HN.out 0).trans rfl; have hcn_1 : w7.cell? ⟨nb, 1, none⟩ = some (.nilFunc) := (blk_cell HN.out 1).trans rfl; have hcn_2 : w7.cell? ⟨nb, 2, none⟩ = some (.int .i64 0) := (blk_cell HN.out 2).trans rfl; have hcn_3 : w7.cell? ⟨nb, 3, none⟩ = some (.int .i64 0) := (blk_cell HN.out 3).trans rfl; have hcn_4 : w7.cell? ⟨nb, 4, none⟩ = some (.int .i64 0) := (blk_cell HN.out 4).trans rfl; have hfn_0 := blk_frozen HN.out 0; have hfn_1 := blk_frozen HN.out 1; have hfn_2 := blk_frozen HN.out 2; have hfn_3 := blk_frozen HN.out 3; have hfn_4 := blk_frozen HN.out 4; have hcz_5 : World.cell? w7 ⟨gb, 5, none⟩ = some (.int .i64 a0_5) := (blk_cell HP.out 5).trans rfl) | (go_at_call 148; (with_reducible refine (impl_paramAt5 gb _).mono ?_); rintro e w8 ⟨rfl, hd⟩; obtain ⟨m1, hm1⟩ := hd; subst hm1))
        go_ret
        exact ⟨by first | rfl | (simp; done) | (simp [*]; done), (by repeat (first | (with_reducible first | exact HB.out | apply below_alloc | apply pw_below_drewN | apply below_drew1 | refine below_set ?_ GE.out) | exact HB.out))⟩
      · have q1b : decide (a0_5 < 0) = false := decide_eq_false q1
        by_cases q2 : 64 < a0_5
        · have q2b : decide (64 < a0_5) = true := decide_eq_true q2
          have hx : impl_ParamsOK.okAt a0_0 a0_1 a0_2 a0_3 a0_4 a0_5 a0_6 a0_7 a0_8 5 = false := by show (decide (0 ≤ a0_5) && decide (a0_5 ≤ 64)) = false; rw [decide_eq_false (show ¬ a0_5 ≤ 64 by omega), Bool.and_false]
          have hn : impl_ParamsOK.nums a0_0 a0_1 a0_2 a0_3 a0_4 a0_5 a0_6 a0_7 a0_8 = false := by unfold impl_ParamsOK.nums; rw [hx]; simp
          have hS := HS.out
          clear HS
          rw [hn, if_neg (by simp)] at hS
          obtain rfl := Option.some.inj hS
          clear hS hn hx
          go_wp2_with (first | ((with_reducible refine gate_dst (N := 6) rfl ?_); refine box_event ?hg (N := 6) ?hd (cs := #[.int .i64 0, .nilFunc, .int .i64 0, .int .i64 0, .int .i64 0]) (t := 120) ?hr ?_; (case hd => rfl); (case hg => rfl); (case hr => first | (go_simp; done) | (go_simp; rfl)); intro nb hg w7 hbox hb; have n0_ := Aside0.mk (below_step (by repeat (first | (with_reducible first | exact HB.out | apply below_alloc | apply pw_below_drewN | apply below_drew1 | refine below_set ?_ GE.out) | exact HB.out)) hb); have n1_ := Aside0.mk (blk_below (by (with_reducible repeat (first | exact HP.out | refine blk_drewN ?_ _ | refine blk_drew ?_ | refine blk_alloc ?_ _ | refine blk_far ?_ NHP.out _))) hb); have n2_ := Aside0.mk (blk_below (by (with_reducible repeat (first | exact HR.out | refine blk_drewN ?_ _ | refine blk_drew ?_ | refine blk_alloc ?_ _ | refine blk_far ?_ NHR.out _))) hb); have n3_ := Aside0.mk hbox; have n4_ := Aside0.mk ((by rw [hg]; exact (below_size (by repeat (first | (with_reducible first | exact HB.out | apply below_alloc | apply pw_below_drewN | apply below_drew1 | refine below_set ?_ GE.out) | exact HB.out)))) : w.heap.size ≤ nb); have n5_ := Aside0.mk ((by rw [hg]; exact Nat.ne_of_lt (blk_lt (g := gb) (by (with_reducible repeat (first | exact HP.out | refine blk_drewN ?_ _ | refine blk_drew ?_ | refine blk_alloc ?_ _ | refine blk_far ?_ NHP.out _))))) : gb ≠ nb); have n6_ := Aside0.mk ((by rw [hg]; exact Nat.ne_of_lt (blk_lt (g := rb) (by (with_reducible repeat (first | exact HR.out | refine blk_drewN ?_ _ | refine blk_drew ?_ | refine blk_alloc ?_ _ | refine blk_far ?_ NHR.out _))))) : rb ≠ nb); clear HB HP HR; have HB := n0_; have HP := n1_; have HR := n2_; have HN := n3_; have GE := n4_; have NHP := n5_; have NHR := n6_; clear n0_ n1_ n2_ n3_ n4_ n5_ n6_; clear hb hbox hg; have hnb := NHP.out; have hnc := NHP.out.symm; have hcn_0 : w7.cell? ⟨nb, 0, none⟩ = some (.int .i64 0) := (blk_cell HN.out 0).trans rfl; have hcn_1 : w7.cell? ⟨nb, 1, none⟩ = some (.nilFunc) := (blk_cell HN.out 1).trans rfl; have hcn_2 : w7.cell? ⟨nb, 2, none⟩ = some (.int .i64 0) := (blk_cell HN.out 2).trans rfl; have hcn_3 : w7.cell? ⟨nb, 3, none⟩ = some (.int .i64 0) := (blk_cell HN.out 3).trans rfl; have hcn_4 : w7.cell? ⟨nb, 4, none⟩ = some (.int .i64 0) := (blk_cell HN.out 4).trans rfl; have hfn_0 := blk_frozen HN.out 0; have hfn_1 := blk_frozen HN.out 1; have hfn_2 := blk_frozen HN.out 2; have hfn_3 := blk_frozen HN.out 3; have hfn_4 := blk_frozen HN.out 4; have hcz_5 : World.cell? w7 ⟨gb, 5, none⟩ = some (.int .i64 a0_5) := (blk_cell HP.out 5).trans rfl) | (go_at_call 148; (with_reducible refine (impl_paramAt5 gb _).mono ?_); rintro e w8 ⟨rfl, hd⟩; obtain ⟨m1, hm1⟩ := hd; subst hm1))
          go_ret
          exact ⟨by first | rfl | (simp; done) | (simp [*]; done), (by repeat (first | (with_reducible first | exact HB.out | apply below_alloc | apply pw_below_drewN | apply below_drew1 | refine below_set ?_ GE.out) | exact HB.out))⟩
        · have q2b : decide (64 < a0_5) = false := decide_eq_false q2
          have hx : impl_ParamsOK.okAt a0_0 a0_1 a0_2 a0_3 a0_4 a0_5 a0_6 a0_7 a0_8 5 = true := by show (decide (0 ≤ a0_5) && decide (a0_5 ≤ 64)) = true; rw [decide_eq_true (show 0 ≤ a0_5 by omega), decide_eq_true (show a0_5 ≤ 64 by omega)]; rfl
          have HK2 : Aside0 (∀ j < 6, impl_ParamsOK.okAt a0_0 a0_1 a0_2 a0_3 a0_4 a0_5 a0_6 a0_7 a0_8 j = true) := ⟨fun j hj => by by_cases hl : j < 5; exact HK.out j hl; obtain rfl : j = 5 := (by omega); exact hx⟩
          clear hx HK
          go_wp2_with (first | ((with_reducible refine gate_dst (N := 6) rfl ?_); refine box_event ?hg (N := 6) ?hd (cs := #[.int .i64 0, .nilFunc, .int .i64 0, .int .i64 0, .int .i64 0]) (t := 120) ?hr ?_; (case hd => rfl); (case hg => rfl); (case hr => first | (go_simp; done) | (go_simp; rfl)); intro nb hg w7 hbox hb; have n0_ := Aside0.mk (below_step (by repeat (first | (with_reducible first | exact HB.out | apply below_alloc | apply pw_below_drewN | apply below_drew1 | refine below_set ?_ GE.out) | exact HB.out)) hb); have n1_ := Aside0.mk (blk_below (by (with_reducible repeat (first | exact HP.out | refine blk_drewN ?_ _ | refine blk_drew ?_ | refine blk_alloc ?_ _ | refine blk_far ?_ NHP.out _))) hb); have n2_ := Aside0.mk (blk_below (by (with_reducible repeat (first | exact HR.out | refine blk_drewN ?_ _ | refine blk_drew ?_ | refine blk_alloc ?_ _ | refine blk_far ?_ NHR.out _))) hb); have n3_ := Aside0.mk hbox; have n4_ := Aside0.mk ((by rw [hg]; exact (below_size (by repeat (first | (with_reducible first | exact HB.out | apply below_alloc | apply pw_below_drewN | apply below_drew1 | refine below_set ?_ GE.out) | exact HB.out)))) : w.heap.size ≤ nb); have n5_ := Aside0.mk ((by rw [hg]; exact Nat.ne_of_lt (blk_lt (g := gb) (by (with_reducible repeat (first | exact HP.out | refine blk_drewN ?_ _ | refine blk_drew ?_ | refine blk_alloc ?_ _ | refine blk_far ?_ NHP.out _))))) : gb ≠ nb); have n6_ := Aside0.mk ((by rw [hg]; exact Nat.ne_of_lt (blk_lt (g := rb) (by (with_reducible repeat (first | exact HR.out | refine blk_drewN ?_ _ | refine blk_drew ?_ | refine blk_alloc ?_ _ | refine blk_far ?_ NHR.out _))))) : rb ≠ nb); clear HB HP HR; have HB := n0_; have HP := n1_; have HR := n2_; have HN := n3_; have GE := n4_; have NHP := n5_; have NHR := n6_; clear n0_ n1_ n2_ n3_ n4_ n5_ n6_; clear hb hbox hg; have hnb := NHP.out; have hnc := NHP.out.symm; have hcn_0 : w7.cell? ⟨nb, 0, none⟩ = some (.int .i64 0) := (blk_cell HN.out 0).trans rfl; have hcn_1 : w7.cell? ⟨nb, 1, none⟩ = some (.nilFunc) := (blk_cell HN.out 1).trans rfl; have hcn_2 : w7.cell? ⟨nb, 2, none⟩ = some (.int .i64 0) := (blk_cell HN.out 2).trans rfl; have hcn_3 : w7.cell? ⟨nb, 3, none⟩ = some (.int .i64 0) := (blk_cell HN.out 3).trans rfl; have hcn_4 : w7.cell? ⟨nb, 4, none⟩ = some (.int .i64 0) := (blk_cell HN.out 4).trans rfl; have hfn_0 := blk_frozen HN.out 0; have hfn_1 := blk_frozen HN.out 1; have hfn_2 := blk_frozen HN.out 2; have hfn_3 := blk_frozen HN.out 3; have hfn_4 := blk_frozen HN.out 4; have hcz_5 : World.cell? w7 ⟨gb, 5, none⟩ = some (.int .i64 a0_5) := (blk_cell HP.out 5).trans rfl) | (go_at_call 148; (with_reducible refine (impl_paramAt5 gb _).mono ?_); rintro e w8 ⟨rfl, hd⟩; obtain ⟨m1, hm1⟩ := hd; subst hm1))
          go_roundg m
          case measure => omega
          case rel => exact ⟨6, by go_num, ⟨by have := Hi.out; omega⟩, HK2, ⟨(by (with_reducible repeat (first | exact HP.out | refine blk_drewN ?_ _ | refine blk_drew ?_ | refine blk_alloc ?_ _ | refine blk_far ?_ NHP.out _)))⟩, ⟨(by (with_reducible repeat (first | exact HR.out | refine blk_drewN ?_ _ | refine blk_drew ?_ | refine blk_alloc ?_ _ | refine blk_far ?_ NHR.out _)))⟩, ⟨(by repeat (first | (with_reducible first | exact HB.out | apply below_alloc | apply pw_below_drewN | apply below_drew1 | refine below_set ?_ GE.out) | exact HB.out))⟩⟩
    · obtain ⟨m, rfl⟩ : ∃ m, gk = m + 1 := ⟨gk - 1, by have := Hi.out; omega⟩
      have hcr_0 : World.cell? _ ⟨rb, 30, none⟩ = some (.int .i64 11) := (blk_cell HR.out 30).trans (by kernel_rfl)
      have hcr_1 : World.cell? _ ⟨rb, 31, none⟩ = some (.func (.func 149) #[] #[]) := (blk_cell HR.out 31).trans (by kernel_rfl)
      have hcr_2 : World.cell? _ ⟨rb, 32, none⟩ = some (.int .i64 0) := (blk_cell HR.out 32).trans (by kernel_rfl)
      have hcr_3 : World.cell? _ ⟨rb, 33, none⟩ = some (.int .i64 1000000) := (blk_cell HR.out 33).trans (by kernel_rfl)
      have hcr_4 : World.cell? _ ⟨rb, 34, none⟩ = some (.int .i64 25000) := (blk_cell HR.out 34).trans (by kernel_rfl)
      have hcz_6 : World.cell? _ ⟨gb, 6, none⟩ = some (.int .i64 a0_6) := (blk_cell HP.out 6).trans rfl
      by_cases q1 : a0_6 < 0
      · have q1b : decide (a0_6 < 0) = true := decide_eq_true q1
        have hx : impl_ParamsOK.okAt a0_0 a0_1 a0_2 a0_3 a0_4 a0_5 a0_6 a0_7 a0_8 6 = false := by show (decide (0 ≤ a0_6) && decide (a0_6 ≤ 1000000)) = false; rw [decide_eq_false (by omega), Bool.false_and]
        have hn : impl_ParamsOK.nums a0_0 a0_1 a0_2 a0_3 a0_4 a0_5 a0_6 a0_7 a0_8 = false := by unfold impl_ParamsOK.nums; rw [hx]; simp
        have hS := HS.out
        clear HS
        rw [hn, if_neg (by simp)] at hS
        obtain rfl := Option.some.inj hS
        clear hS hn hx
        go_wp2_with (first | ((with_reducible refine gate_dst (N := 6) rfl ?_); refine box_event ?hg (N := 6) ?hd (cs := #[.int .i64 0, .nilFunc, .int .i64 0, .int .i64 0, .int .i64 0]) (t := 120) ?hr ?_; (case hd => rfl); (case hg => rfl); (case hr => first | (go_simp; done) | (go_simp; rfl)); intro nb hg w7 hbox hb; have n0_ := Aside0.mk (below_step (by repeat (first | (with_reducible first | exact HB.out | apply below_alloc | apply pw_below_drewN | apply below_drew1 | refine below_set ?_ GE.out) | exact HB.out)) hb); have n1_ := Aside0.mk (blk_below (by (with_reducible repeat (first | exact HP.out | refine blk_drewN ?_ _ | refine blk_drew ?_ | refine blk_alloc ?_ _ | refine blk_far ?_ NHP.out _))) hb); have n2_ := Aside0.mk (blk_below (by (with_reducible repeat (first | exact HR.out | refine blk_drewN ?_ _ | refine blk_drew ?_ | refine blk_alloc ?_ _ | refine blk_far ?_ NHR.out _))) hb); have n3_ := Aside0.mk hbox; have n4_ := Aside0.mk ((by rw [hg]; exact (below_size (by repeat (first | (with_reducible first | exact HB.out | apply below_alloc | apply pw_below_drewN | apply below_drew1 | refine below_set ?_ GE.out) | exact HB.out)))) : w.heap.size ≤ nb); have n5_ := Aside0.mk ((by rw [hg]; exact Nat.ne_of_lt (blk_lt (g := gb) (by (with_reducible repeat (first | exact HP.out | refine blk_drewN ?_ _ | refine blk_drew ?_ | refine blk_alloc ?_ _ | refine blk_far ?_ NHP.out _))))) : gb ≠ nb); have n6_ := Aside0.mk ((by rw [hg]; exact Nat.ne_of_lt (blk_lt (g := rb) (by (with_reducible repeat (first | exact HR.out | refine blk_drewN ?_ _ | refine blk_drew ?_ | refine blk_alloc ?_ _ | refine blk_far ?_ NHR.out _))))) : rb ≠ nb); clear HB HP HR; have HB := n0_; have HP := n1_; have HR := n2_; have HN := n3_; have GE := n4_; have NHP := n5_; have NHR := n6_; clear n0_ n1_ n2_ n3_ n4_ n5_ n6_; clear hb hbox hg; have hnb := NHP.out; have hnc := NHP.out.symm; have hcn_0 : w7.cell? ⟨nb, 0, none⟩ = some (.int .i64 0) := (blk_cell HN.out 0).trans rfl; have hcn_1 : w7.cell? ⟨nb, 1, none⟩ = some (.nilFunc) := (blk_cell HN.out 1).trans rfl; have hcn_2 : w7.cell? ⟨nb, 2, none⟩ = some (.int .i64 0) := (blk_cell HN.out 2).trans rfl; have hcn_3 : w7.cell? ⟨nb, 3, none⟩ = some (.int .i64 0) := (blk_cell HN.out 3).trans rfl; have hcn_4 : w7.cell? ⟨nb, 4, none⟩ = some (.int .i64 0) := (blk_cell HN.out 4).trans rfl; have hfn_0 := blk_frozen HN.out 0; have hfn_1 := blk_frozen HN.out 1; have hfn_2 := blk_frozen HN.out 2; have hfn_3 := blk_frozen HN.out 3; have hfn_4 := blk_frozen HN.out 4; have hcz_6 : World.cell? w7 ⟨gb, 6, none⟩ = some (.int .i64 a0_6) := (blk_cell HP.out 6).trans rfl) | (go_at_call 149; (with_reducible refine (impl_paramAt6 gb _).mono ?_); rintro e w8 ⟨rfl, hd⟩; obtain ⟨m1, hm1⟩ := hd; subst hm1))
        go_ret
        exact ⟨by first | rfl | (simp; done) | (simp [*]; done), (by repeat (first | (with_reducible first | exact HB.out | apply below_alloc | apply pw_below_drewN | apply below_drew1 | refine below_set ?_ GE.out) | exact HB.out))⟩
      · have q1b : decide (a0_6 < 0) = false := decide_eq_false q1
        by_cases q2 : 1000000 < a0_6
        · have q2b : decide (1000000 < a0_6) = true := decide_eq_true q2
          have hx : impl_ParamsOK.okAt a0_0 a0_1 a0_2 a0_3 a0_4 a0_5 a0_6 a0_7 a0_8 6 = false := by show (decide (0 ≤ a0_6) && decide (a0_6 ≤ 1000000)) = false; rw [decide_eq_false (show ¬ a0_6 ≤ 1000000 by omega), Bool.and_false]
          have hn : impl_ParamsOK.nums a0_0 a0_1 a0_2 a0_3 a0_4 a0_5 a0_6 a0_7 a0_8 = false := by unfold impl_ParamsOK.nums; rw [hx]; simp
          have hS := HS.out
          clear HS
          rw [hn, if_neg (by simp)] at hS
          obtain rfl := Option.some.inj hS
          clear hS hn hx
          go_wp2_with (first | ((with_reducible refine gate_dst (N := 6) rfl ?_); refine box_event ?hg (N := 6) ?hd (cs := #[.int .i64 0, .nilFunc, .int .i64 0, .int .i64 0, .int .i64 0]) (t := 120) ?hr ?_; (case hd => rfl); (case hg => rfl); (case hr => first | (go_simp; done) | (go_simp; rfl)); intro nb hg w7 hbox hb; have n0_ := Aside0.mk (below_step (by repeat (first | (with_reducible first | exact HB.out | apply below_alloc | apply pw_below_drewN | apply below_drew1 | refine below_set ?_ GE.out) | exact HB.out)) hb); have n1_ := Aside0.mk (blk_below (by (with_reducible repeat (first | exact HP.out | refine blk_drewN ?_ _ | refine blk_drew ?_ | refine blk_alloc ?_ _ | refine blk_far ?_ NHP.out _))) hb); have n2_ := Aside0.mk (blk_below (by (with_reducible repeat (first | exact HR.out | refine blk_drewN ?_ _ | refine blk_drew ?_ | refine blk_alloc ?_ _ | refine blk_far ?_ NHR.out _))) hb); have n3_ := Aside0.mk hbox; have n4_ := Aside0.mk ((by rw [hg]; exact (below_size (by repeat (first | (with_reducible first | exact HB.out | apply below_alloc | apply pw_below_drewN | apply below_drew1 | refine below_set ?_ GE.out) | exact HB.out)))) : w.heap.size ≤ nb); have n5_ := Aside0.mk ((by rw [hg]; exact Nat.ne_of_lt (blk_lt (g := gb) (by (with_reducible repeat (first | exact HP.out | refine blk_drewN ?_ _ | refine blk_drew ?_ | refine blk_alloc ?_ _ | refine blk_far ?_ NHP.out _))))) : gb ≠ nb); have n6_ := Aside0.mk ((by rw [hg]; exact Nat.ne_of_lt (blk_lt (g := rb) (by (with_reducible repeat (first | exact HR.out | refine blk_drewN ?_ _ | refine blk_drew ?_ | refine blk_alloc ?_ _ | refine blk_far ?_ NHR.out _))))) : rb ≠ nb); clear HB HP HR; have HB := n0_; have HP := n1_; have HR := n2_; have HN := n3_; have GE := n4_; have NHP := n5_; have NHR := n6_; clear n0_ n1_ n2_ n3_ n4_ n5_ n6_; clear hb hbox hg; have hnb := NHP.out; have hnc := NHP.out.symm; have hcn_0 : w7.cell? ⟨nb, 0, none⟩ = some (.int .i64 0) := (blk_cell HN.out 0).trans rfl; have hcn_1 : w7.cell? ⟨nb, 1, none⟩ = some (.nilFunc) := (blk_cell HN.out 1).trans rfl; have hcn_2 : w7.cell? ⟨nb, 2, none⟩ = some (.int .i64 0) := (blk_cell HN.out 2).trans rfl; have hcn_3 : w7.cell? ⟨nb, 3, none⟩ = some (.int .i64 0) := (blk_cell HN.out 3).trans rfl; have hcn_4 : w7.cell? ⟨nb, 4, none⟩ = some (.int .i64 0) := (blk_cell HN.out 4).trans rfl; have hfn_0 := blk_frozen HN.out 0; have hfn_1 := blk_frozen HN.out 1; have hfn_2 := blk_frozen HN.out 2; have hfn_3 := blk_frozen HN.out 3; have hfn_4 := blk_frozen HN.out 4; have hcz_6 : World.cell? w7 ⟨gb, 6, none⟩ = some (.int .i64 a0_6) := (blk_cell HP.out 6).trans rfl) | (go_at_call 149; (with_reducible refine (impl_paramAt6 gb _).mono ?_); rintro e w8 ⟨rfl, hd⟩; obtain ⟨m1, hm1⟩ := hd; subst hm1))
          go_ret
          exact ⟨by first | rfl | (simp; done) | (simp [*]; done), (by repeat (first | (with_reducible first | exact HB.out | apply below_alloc | apply pw_below_drewN | apply below_drew1 | refine below_set ?_ GE.out) | exact HB.out))⟩
        · have q2b : decide (1000000 < a0_6) = false := decide_eq_false q2
          have hx : impl_ParamsOK.okAt a0_0 a0_1 a0_2 a0_3 a0_4 a0_5 a0_6 a0_7 a0_8 6 = true := by show (decide (0 ≤ a0_6) && decide (a0_6 ≤ 1000000)) = true; rw [decide_eq_true (show 0 ≤ a0_6 by omega), decide_eq_true (show a0_6 ≤ 1000000 by omega)]; rfl
          have HK2 : Aside0 (∀ j < 7, impl_ParamsOK.okAt a0_0 a0_1 a0_2 a0_3 a0_4 a0_5 a0_6 a0_7 a0_8 j = true) := ⟨fun j hj => by by_cases hl : j < 6; exact HK.out j hl; obtain rfl : j = 6 := (by omega); exact hx⟩
          clear hx HK
          go_wp2_with (first | ((with_reducible refine gate_dst (N := 6) rfl ?_); refine box_event ?hg (N := 6) ?hd (cs := #[.int .i64 0, .nilFunc, .int .i64 0, .int .i64 0, .int .i64 0]) (t := 120) ?hr ?_; (case hd => rfl); (case hg => rfl); (case hr => first | (go_simp; done) | (go_simp; rfl)); intro nb hg w7 hbox hb; have n0_ := Aside0.mk (below_step (by repeat (first | (with_reducible first | exact HB.out | apply below_alloc | apply pw_below_drewN | apply below_drew1 | refine below_set ?_ GE.out) | exact HB.out)) hb); have n1_ := Aside0.mk (blk_below (by (with_reducible repeat (first | exact HP.out | refine blk_drewN ?_ _ | refine blk_drew ?_ | refine blk_alloc ?_ _ | refine blk_far ?_ NHP.out _))) hb); have n2_ := Aside0.mk (blk_below (by (with_reducible repeat (first | exact HR.out | refine blk_drewN ?_ _ | refine blk_drew ?_ | refine blk_alloc ?_ _ | refine blk_far ?_ NHR.out _))) hb); have n3_ := Aside0.mk hbox; have n4_ := Aside0.mk ((by rw [hg]; exact (below_size (by repeat (first | (with_reducible first | exact HB.out | apply below_alloc | apply pw_below_drewN | apply below_drew1 | refine below_set ?_ GE.out) | exact HB.out)))) : w.heap.size ≤ nb); have n5_ := Aside0.mk ((by rw [hg]; exact Nat.ne_of_lt (blk_lt (g := gb) (by (with_reducible repeat (first | exact HP.out | refine blk_drewN ?_ _ | refine blk_drew ?_ | refine blk_alloc ?_ _ | refine blk_far ?_ NHP.out _))))) : gb ≠ nb); have n6_ := Aside0.mk ((by rw [hg]; exact Nat.ne_of_lt (blk_lt (g := rb) (by (with_reducible repeat (first | exact HR.out | refine blk_drewN ?_ _ | refine blk_drew ?_ | refine blk_alloc ?_ _ | refine blk_far ?_ NHR.out _))))) : rb ≠ nb); clear HB HP HR; have HB := n0_; have HP := n1_; have HR := n2_; have HN := n3_; have GE := n4_; have NHP := n5_; have NHR := n6_; clear n0_ n1_ n2_ n3_ n4_ n5_ n6_; clear hb hbox hg; have hnb := NHP.out; have hnc := NHP.out.symm; have hcn_0 : w7.cell? ⟨nb, 0, none⟩ = some (.int .i64 0) := (blk_cell HN.out 0).trans rfl; have hcn_1 : w7.cell? ⟨nb, 1, none⟩ = some (.nilFunc) := (blk_cell HN.out 1).trans rfl; have hcn_2 : w7.cell? ⟨nb, 2, none⟩ = some (.int .i64 0) := (blk_cell HN.out 2).trans rfl; have hcn_3 : w7.cell? ⟨nb, 3, none⟩ = some (.int .i64 0) := (blk_cell HN.out 3).trans rfl; have hcn_4 : w7.cell? ⟨nb, 4, none⟩ = some (.int .i64 0) := (blk_cell HN.out 4).trans rfl; have hfn_0 := blk_frozen HN.out 0; have hfn_1 := blk_frozen HN.out 1; have hfn_2 := blk_frozen HN.out 2; have hfn_3 := blk_frozen HN.out 3; have hfn_4 := blk_frozen HN.out 4; have hcz_6 : World.cell? w7 ⟨gb, 6, none⟩ = some (.int .i64 a0_6) := (blk_cell HP.out 6).trans rfl) | (go_at_call 149; (with_reducible refine (impl_paramAt6 gb _).mono ?_); rintro e w8 ⟨rfl, hd⟩; obtain ⟨m1, hm1⟩ := hd; subst hm1))
          go_roundg m
          case measure => omega
          case rel => exact ⟨7, by go_num, ⟨by have := Hi.out; omega⟩, HK2, ⟨(by (with_reducible repeat (first | exact HP.out | refine blk_drewN ?_ _ | refine blk_drew ?_ | refine blk_alloc ?_ _ | refine blk_far ?_ NHP.out _)))⟩, ⟨(by (with_reducible repeat (first | exact HR.out | refine blk_drewN ?_ _ | refine blk_drew ?_ | refine blk_alloc ?_ _ | refine blk_far ?_ NHR.out _)))⟩, ⟨(by repeat (first | (with_reducible first | exact HB.out | apply below_alloc | apply pw_below_drewN | apply below_drew1 | refine below_set ?_ GE.out) | exact HB.out))⟩⟩
    · obtain ⟨m, rfl⟩ : ∃ m, gk = m + 1 := ⟨gk - 1, by have := Hi.out; omega⟩
      have hcr_0 : World.cell? _ ⟨rb, 35, none⟩ = some (.int .i64 14) := (blk_cell HR.out 35).trans (by kernel_rfl)
      have hcr_1 : World.cell? _ ⟨rb, 36, none⟩ = some (.func (.func 150) #[] #[]) := (blk_cell HR.out 36).trans (by kernel_rfl)
      have hcr_2 : World.cell? _ ⟨rb, 37, none⟩ = some (.int .i64 2) := (blk_cell HR.out 37).trans (by kernel_rfl)
      have hcr_3 : World.cell? _ ⟨rb, 38, none⟩ = some (.int .i64 16) := (blk_cell HR.out 38).trans (by kernel_rfl)
      have hcr_4 : World.cell? _ ⟨rb, 39, none⟩ = some (.int .i64 2) := (blk_cell HR.out 39).trans (by kernel_rfl)
      have hcz_7 : World.cell? _ ⟨gb, 7, none⟩ = some (.int .i64 a0_7) := (blk_cell HP.out 7).trans rfl
      by_cases q1 : a0_7 < 2
      · have q1b : decide (a0_7 < 2) = true := decide_eq_true q1
        have hx : impl_ParamsOK.okAt a0_0 a0_1 a0_2 a0_3 a0_4 a0_5 a0_6 a0_7 a0_8 7 = false := by show (decide (2 ≤ a0_7) && decide (a0_7 ≤ 16)) = false; rw [decide_eq_false (by omega), Bool.false_and]
        have hn : impl_ParamsOK.nums a0_0 a0_1 a0_2 a0_3 a0_4 a0_5 a0_6 a0_7 a0_8 = false := by unfold impl_ParamsOK.nums; rw [hx]; simp
        have hS := HS.out
        clear HS
        rw [hn, if_neg (by simp)] at hS
        obtain rfl := Option.some.inj hS
        clear hS hn hx
        go_wp2_with (first | ((with_reducible refine gate_dst (N := 6) rfl ?_); refine box_event ?hg (N := 6) ?hd (cs := #[.int .i64 0, .nilFunc, .int .i64 0, .int .i64 0, .int .i64 0]) (t := 120) ?hr ?_; (case hd => rfl); (case hg => rfl); (case hr => first | (go_simp; done) | (go_simp; rfl)); intro nb hg w7 hbox hb; have n0_ := Aside0.mk (below_step (by repeat (first | (with_reducible first | exact HB.out | apply below_alloc | apply pw_below_drewN | apply below_drew1 | refine below_set ?_ GE.out) | exact HB.out)) hb); have n1_ := Aside0.mk (blk_below (by (with_reducible repeat (first | exact HP.out | refine blk_drewN ?_ _ | refine blk_drew ?_ | refine blk_alloc ?_ _ | refine blk_far ?_ NHP.out _))) hb); have n2_ := Aside0.mk (blk_below (by (with_reducible repeat (first | exact HR.out | refine blk_drewN ?_ _ | refine blk_drew ?_ | refine blk_alloc ?_ _ | refine blk_far ?_ NHR.out _))) hb); have n3_ := Aside0.mk hbox; have n4_ := Aside0.mk ((by rw [hg]; exact (below_size (by repeat (first | (with_reducible first | exact HB.out | apply below_alloc | apply pw_below_drewN | apply below_drew1 | refine below_set ?_ GE.out) | exact HB.out)))) : w.heap.size ≤ nb); have n5_ := Aside0.mk ((by rw [hg]; exact Nat.ne_of_lt (blk_lt (g := gb) (by (with_reducible repeat (first | exact HP.out | refine blk_drewN ?_ _ | refine blk_drew ?_ | refine blk_alloc ?_ _ | refine blk_far ?_ NHP.out _))))) : gb ≠ nb); have n6_ := Aside0.mk ((by rw [hg]; exact Nat.ne_of_lt (blk_lt (g := rb) (by (with_reducible repeat (first | exact HR.out | refine blk_drewN ?_ _ | refine blk_drew ?_ | refine blk_alloc ?_ _ | refine blk_far ?_ NHR.out _))))) : rb ≠ nb); clear HB HP HR; have HB := n0_; have HP := n1_; have HR := n2_; have HN := n3_; have GE := n4_; have NHP := n5_; have NHR := n6_; clear n0_ n1_ n2_ n3_ n4_ n5_ n6_; clear hb hbox hg; have hnb := NHP.out; have hnc := NHP.out.symm; have hcn_0 : w7.cell? ⟨nb, 0, none⟩ = some (.int .i64 0) := (blk_cell HN.out 0).trans rfl; have hcn_1 : w7.cell? ⟨nb, 1, none⟩ = some (.nilFunc) := (blk_cell HN.out 1).trans rfl; have hcn_2 : w7.cell? ⟨nb, 2, none⟩ = some (.int .i64 0) := (blk_cell HN.out 2).trans rfl; have hcn_3 : w7.cell? ⟨nb, 3, none⟩ = some (.int .i64 0) := (blk_cell HN.out 3).trans rfl; have hcn_4 : w7.cell? ⟨nb, 4, none⟩ = some (.int .i64 0) := (blk_cell HN.out 4).trans rfl; have hfn_0 := blk_frozen HN.out 0; have hfn_1 := blk_frozen HN.out 1; have hfn_2 := blk_frozen HN.out 2; have hfn_3 := blk_frozen HN.out 3; have hfn_4 := blk_frozen HN.out 4; have hcz_7 : World.cell? w7 ⟨gb, 7, none⟩ = some (.int .i64 a0_7) := (blk_cell HP.out 7).trans rfl) | (go_at_call 150; (with_reducible refine (impl_paramAt7 gb _).mono ?_); rintro e w8 ⟨rfl, hd⟩; obtain ⟨m1, hm1⟩ := hd; subst hm1))
        go_ret
        exact ⟨by first | rfl | (simp; done) | (simp [*]; done), (by repeat (first | (with_reducible first | exact HB.out | apply below_alloc | apply pw_below_drewN | apply below_drew1 | refine below_set ?_ GE.out) | exact HB.out))⟩
      · have q1b : decide (a0_7 < 2) = false := decide_eq_false q1
        by_cases q2 : 16 < a0_7
        · have q2b : decide (16 < a0_7) = true := decide_eq_true q2
          have hx : impl_ParamsOK.okAt a0_0 a0_1 a0_2 a0_3 a0_4 a0_5 a0_6 a0_7 a0_8 7 = false := by show (decide (2 ≤ a0_7) && decide (a0_7 ≤ 16)) = false; rw [decide_eq_false (show ¬ a0_7 ≤ 16 by omega), Bool.and_false]
          have hn : impl_ParamsOK.nums a0_0 a0_1 a0_2 a0_3 a0_4 a0_5 a0_6 a0_7 a0_8 = false := by unfold impl_ParamsOK.nums; rw [hx]; simp
          have hS := HS.out
          clear HS
          rw [hn, if_neg (by simp)] at hS
          obtain rfl := Option.some.inj hS
          clear hS hn hx
          go_wp2_with (first | ((with_reducible refine gate_dst (N := 6) rfl ?_); refine box_event ?hg (N := 6) ?hd (cs := #[.int .i64 0, .nilFunc, .int .i64 0, .int .i64 0, .int .i64 0]) (t := 120) ?hr ?_; (case hd => rfl); (case hg => rfl); (case hr => first | (go_simp; done) | (go_simp; rfl)); intro nb hg w7 hbox hb; have n0_ := Aside0.mk (below_step (by repeat (first | (with_reducible first | exact HB.out | apply below_alloc | apply pw_below_drewN | apply below_drew1 | refine below_set ?_ GE.out) | exact HB.out)) hb); have n1_ := Aside0.mk (blk_below (by (with_reducible repeat (first | exact HP.out | refine blk_drewN ?_ _ | refine blk_drew ?_ | refine blk_alloc ?_ _ | refine blk_far ?_ NHP.out _))) hb); have n2_ := Aside0.mk (blk_below (by (with_reducible repeat (first | exact HR.out | refine blk_drewN ?_ _ | refine blk_drew ?_ | refine blk_alloc ?_ _ | refine blk_far ?_ NHR.out _))) hb); have n3_ := Aside0.mk hbox; have n4_ := Aside0.mk ((by rw [hg]; exact (below_size (by repeat (first | (with_reducible first | exact HB.out | apply below_alloc | apply pw_below_drewN | apply below_drew1 | refine below_set ?_ GE.out) | exact HB.out)))) : w.heap.size ≤ nb); have n5_ := Aside0.mk ((by rw [hg]; exact Nat.ne_of_lt (blk_lt (g := gb) (by (with_reducible repeat (first | exact HP.out | refine blk_drewN ?_ _ | refine blk_drew ?_ | refine blk_alloc ?_ _ | refine blk_far ?_ NHP.out _))))) : gb ≠ nb); have n6_ := Aside0.mk ((by rw [hg]; exact Nat.ne_of_lt (blk_lt (g := rb) (by (with_reducible repeat (first | exact HR.out | refine blk_drewN ?_ _ | refine blk_drew ?_ | refine blk_alloc ?_ _ | refine blk_far ?_ NHR.out _))))) : rb ≠ nb); clear HB HP HR; have HB := n0_; have HP := n1_; have HR := n2_; have HN := n3_; have GE := n4_; have NHP := n5_; have NHR := n6_; clear n0_ n1_ n2_ n3_ n4_ n5_ n6_; clear hb hbox hg; have hnb := NHP.out; have hnc := NHP.out.symm; have hcn_0 : w7.cell? ⟨nb, 0, none⟩ = some (.int .i64 0) := (blk_cell HN.out 0).trans rfl; have hcn_1 : w7.cell? ⟨nb, 1, none⟩ = some (.nilFunc) := (blk_cell HN.out 1).trans rfl; have hcn_2 : w7.cell? ⟨nb, 2, none⟩ = some (.int .i64 0) := (blk_cell HN.out 2).trans rfl; have hcn_3 : w7.cell? ⟨nb, 3, none⟩ = some (.int .i64 0) := (blk_cell HN.out 3).trans rfl; have hcn_4 : w7.cell? ⟨nb, 4, none⟩ = some (.int .i64 0) := (blk_cell HN.out 4).trans rfl; have hfn_0 := blk_frozen HN.out 0; have hfn_1 := blk_frozen HN.out 1; have hfn_2 := blk_frozen HN.out 2; have hfn_3 := blk_frozen HN.out 3; have hfn_4 := blk_frozen HN.out 4; have hcz_7 : World.cell? w7 ⟨gb, 7, none⟩ = some (.int .i64 a0_7) := (blk_cell HP.out 7).trans rfl) | (go_at_call 150; (with_reducible refine (impl_paramAt7 gb _).mono ?_); rintro e w8 ⟨rfl, hd⟩; obtain ⟨m1, hm1⟩ := hd; subst hm1))
          go_ret
          exact ⟨by first | rfl | (simp; done) | (simp [*]; done), (by repeat (first | (with_reducible first | exact HB.out | apply below_alloc | apply pw_below_drewN | apply below_drew1 | refine below_set ?_ GE.out) | exact HB.out))⟩
        · have q2b : decide (16 < a0_7) = false := decide_eq_false q2
          have hx : impl_ParamsOK.okAt a0_0 a0_1 a0_2 a0_3 a0_4 a0_5 a0_6 a0_7 a0_8 7 = true := by show (decide (2 ≤ a0_7) && decide (a0_7 ≤ 16)) = true; rw [decide_eq_true (show 2 ≤ a0_7 by omega), decide_eq_true (show a0_7 ≤ 16 by omega)]; rfl
          have HK2 : Aside0 (∀ j < 8, impl_ParamsOK.okAt a0_0 a0_1 a0_2 a0_3 a0_4 a0_5 a0_6 a0_7 a0_8 j = true) := ⟨fun j hj => by by_cases hl : j < 7; exact HK.out j hl; obtain rfl : j = 7 := (by omega); exact hx⟩
          clear hx HK
          go_wp2_with (first | ((with_reducible refine gate_dst (N := 6) rfl ?_); refine box_event ?hg (N := 6) ?hd (cs := #[.int .i64 0, .nilFunc, .int .i64 0, .int .i64 0, .int .i64 0]) (t := 120) ?hr ?_; (case hd => rfl); (case hg => rfl); (case hr => first | (go_simp; done) | (go_simp; rfl)); intro nb hg w7 hbox hb; have n0_ := Aside0.mk (below_step (by repeat (first | (with_reducible first | exact HB.out | apply below_alloc | apply pw_below_drewN | apply below_drew1 | refine below_set ?_ GE.out) | exact HB.out)) hb); have n1_ := Aside0.mk (blk_below (by (with_reducible repeat (first | exact HP.out | refine blk_drewN ?_ _ | refine blk_drew ?_ | refine blk_alloc ?_ _ | refine blk_far ?_ NHP.out _))) hb); have n2_ := Aside0.mk (blk_below (by (with_reducible repeat (first | exact HR.out | refine blk_drewN ?_ _ | refine blk_drew ?_ | refine blk_alloc ?_ _ | refine blk_far ?_ NHR.out _))) hb); have n3_ := Aside0.mk hbox; have n4_ := Aside0.mk ((by rw [hg]; exact (below_size (by repeat (first | (with_reducible first | exact HB.out | apply below_alloc | apply pw_below_drewN | apply below_drew1 | refine below_set ?_ GE.out) | exact HB.out)))) : w.heap.size ≤ nb); have n5_ := Aside0.mk ((by rw [hg]; exact Nat.ne_of_lt (blk_lt (g := gb) (by (with_reducible repeat (first | exact HP.out | refine blk_drewN ?_ _ | refine blk_drew ?_ | refine blk_alloc ?_ _ | refine blk_far ?_ NHP.out _))))) : gb ≠ nb); have n6_ := Aside0.mk ((by rw [hg]; exact Nat.ne_of_lt (blk_lt (g := rb) (by (with_reducible repeat (first | exact HR.out | refine blk_drewN ?_ _ | refine blk_drew ?_ | refine blk_alloc ?_ _ | refine blk_far ?_ NHR.out _))))) : rb ≠ nb); clear HB HP HR; have HB := n0_; have HP := n1_; have HR := n2_; have HN := n3_; have GE := n4_; have NHP := n5_; have NHR := n6_; clear n0_ n1_ n2_ n3_ n4_ n5_ n6_; clear hb hbox hg; have hnb := NHP.out; have hnc := NHP.out.symm; have hcn_0 : w7.cell? ⟨nb, 0, none⟩ = some (.int .i64 0) := (blk_cell HN.out 0).trans rfl; have hcn_1 : w7.cell? ⟨nb, 1, none⟩ = some (.nilFunc) := (blk_cell HN.out 1).trans rfl; have hcn_2 : w7.cell? ⟨nb, 2, none⟩ = some (.int .i64 0) := (blk_cell HN.out 2).trans rfl; have hcn_3 : w7.cell? ⟨nb, 3, none⟩ = some (.int .i64 0) := (blk_cell HN.out 3).trans rfl; have hcn_4 : w7.cell? ⟨nb, 4, none⟩ = some (.int .i64 0) := (blk_cell HN.out 4).trans rfl; have hfn_0 := blk_frozen HN.out 0; have hfn_1 := blk_frozen HN.out 1; have hfn_2 := blk_frozen HN.out 2; have hfn_3 := blk_frozen HN.out 3; have hfn_4 := blk_frozen HN.out 4; have hcz_7 : World.cell? w7 ⟨gb, 7, none⟩ = some (.int .i64 a0_7) := (blk_cell HP.out 7).trans rfl) | (go_at_call 150; (with_reducible refine (impl_paramAt7 gb _).mono ?_); rintro e w8 ⟨rfl, hd⟩; obtain ⟨m1, hm1⟩ := hd; subst hm1))
          go_roundg m
          case measure => omega
          case rel => exact ⟨8, by go_num, ⟨by have := Hi.out; omega⟩, HK2, ⟨(by (with_reducible repeat (first | exact HP.out | refine blk_drewN ?_ _ | refine blk_drew ?_ | refine blk_alloc ?_ _ | refine blk_far ?_ NHP.out _)))⟩, ⟨(by (with_reducible repeat (first | exact HR.out | refine blk_drewN ?_ _ | refine blk_drew ?_ | refine blk_alloc ?_ _ | refine blk_far ?_ NHR.out _)))⟩, ⟨(by repeat (first | (with_reducible first | exact HB.out | apply below_alloc | apply pw_below_drewN | apply below_drew1 | refine below_set ?_ GE.out) | exact HB.out))⟩⟩
    · obtain ⟨m, rfl⟩ : ∃ m, gk = m + 1 := ⟨gk - 1, by have := Hi.out; omega⟩
      have hcr_0 : World.cell? _ ⟨rb, 40, none⟩ = some (.int .i64 32) := (blk_cell HR.out 40).trans (by kernel_rfl)
      have hcr_1 : World.cell? _ ⟨rb, 41, none⟩ = some (.func (.func 151) #[] #[]) := (blk_cell HR.out 41).trans (by kernel_rfl)
      have hcr_2 : World.cell? _ ⟨rb, 42, none⟩ = some (.int .i64 0) := (blk_cell HR.out 42).trans (by kernel_rfl)
      have hcr_3 : World.cell? _ ⟨rb, 43, none⟩ = some (.int .i64 1500) := (blk_cell HR.out 43).trans (by kernel_rfl)
      have hcr_4 : World.cell? _ ⟨rb, 44, none⟩ = some (.int .i64 0) := (blk_cell HR.out 44).trans (by kernel_rfl)
      have hcz_8 : World.cell? _ ⟨gb, 8, none⟩ = some (.int .i64 a0_8) := (blk_cell HP.out 8).trans rfl
      by_cases q1 : a0_8 < 0
      · have q1b : decide (a0_8 < 0) = true := decide_eq_true q1
        have hx : impl_ParamsOK.okAt a0_0 a0_1 a0_2 a0_3 a0_4 a0_5 a0_6 a0_7 a0_8 8 = false := by show (decide (0 ≤ a0_8) && decide (a0_8 ≤ 1500)) = false; rw [decide_eq_false (by omega), Bool.false_and]
        have hn : impl_ParamsOK.nums a0_0 a0_1 a0_2 a0_3 a0_4 a0_5 a0_6 a0_7 a0_8 = false := by unfold impl_ParamsOK.nums; rw [hx]; simp
        have hS := HS.out
        clear HS
        rw [hn, if_neg (by simp)] at hS
        obtain rfl := Option.some.inj hS
        clear hS hn hx
        go_wp2_with (first | ((with_reducible refine gate_dst (N := 6) rfl ?_); refine box_event ?hg (N := 6) ?hd (cs := #[.int .i64 0, .nilFunc, .int .i64 0, .int .i64 0, .int .i64 0]) (t := 120) ?hr ?_; (case hd => rfl); (case hg => rfl); (case hr => first | (go_simp; done) | (go_simp; rfl)); intro nb hg w7 hbox hb; have n0_ := Aside0.mk (below_step (by repeat (first | (with_reducible first | exact HB.out | apply below_alloc | apply pw_below_drewN | apply below_drew1 | refine below_set ?_ GE.out) | exact HB.out)) hb); have n1_ := Aside0.mk (blk_below (by (with_reducible repeat (first | exact HP.out | refine blk_drewN ?_ _ | refine blk_drew ?_ | refine blk_alloc ?_ _ | refine blk_far ?_ NHP.out _))) hb); have n2_ := Aside0.mk (blk_below (by (with_reducible repeat (first | exact HR.out | refine blk_drewN ?_ _ | refine blk_drew ?_ | refine blk_alloc ?_ _ | refine blk_far ?_ NHR.out _))) hb); have n3_ := Aside0.mk hbox; have n4_ := Aside0.mk ((by rw [hg]; exact (below_size (by repeat (first | (with_reducible first | exact HB.out | apply below_alloc | apply pw_below_drewN | apply below_drew1 | refine below_set ?_ GE.out) | exact HB.out)))) : w.heap.size ≤ nb); have n5_ := Aside0.mk ((by rw [hg]; exact Nat.ne_of_lt (blk_lt (g := gb) (by (with_reducible repeat (first | exact HP.out | refine blk_drewN ?_ _ | refine blk_drew ?_ | refine blk_alloc ?_ _ | refine blk_far ?_ NHP.out _))))) : gb ≠ nb); have n6_ := Aside0.mk ((by rw [hg]; exact Nat.ne_of_lt (blk_lt (g := rb) (by (with_reducible repeat (first | exact HR.out | refine blk_drewN ?_ _ | refine blk_drew ?_ | refine blk_alloc ?_ _ | refine blk_far ?_ NHR.out _))))) : rb ≠ nb); clear HB HP HR; have HB := n0_; have HP := n1_; have HR := n2_; have HN := n3_; have GE := n4_; have NHP := n5_; have NHR := n6_; clear n0_ n1_ n2_ n3_ n4_ n5_ n6_; clear hb hbox hg; have hnb := NHP.out; have hnc := NHP.out.symm; have hcn_0 : w7.cell? ⟨nb, 0, none⟩ = some (.int .i64 0) := (blk_cell HN.out 0).trans rfl; have hcn_1 : w7.cell? ⟨nb, 1, none⟩ = some (.nilFunc) := (blk_cell HN.out 1).trans rfl; have hcn_2 : w7.cell? ⟨nb, 2, none⟩ = some (.int .i64 0) := (blk_cell HN.out 2).trans rfl; have hcn_3 : w7.cell? ⟨nb, 3, none⟩ = some (.int .i64 0) := (blk_cell HN.out 3).trans rfl; have hcn_4 : w7.cell? ⟨nb, 4, none⟩ = some (.int .i64 0) := (blk_cell HN.out 4).trans rfl; have hfn_0 := blk_frozen HN.out 0; have hfn_1 := blk_frozen HN.out 1; have hfn_2 := blk_frozen HN.out 2; have hfn_3 := blk_frozen HN.out 3; have hfn_4 := blk_frozen HN.out 4; have hcz_8 : World.cell? w7 ⟨gb, 8, none⟩ = some (.int .i64 a0_8) := (blk_cell HP.out 8).trans rfl) | (go_at_call 151; (with_reducible refine (impl_paramAt8 gb _).mono ?_); rintro e w8 ⟨rfl, hd⟩; obtain ⟨m1, hm1⟩ := hd; subst hm1))
        go_ret
        exact ⟨by first | rfl | (simp; done) | (simp [*]; done), (by repeat (first | (with_reducible first | exact HB.out | apply below_alloc | apply pw_below_drewN | apply below_drew1 | refine below_set ?_ GE.out) | exact HB.out))⟩
      · have q1b : decide (a0_8 < 0) = false := decide_eq_false q1
        by_cases q2 : 1500 < a0_8
        · have q2b : decide (1500 < a0_8) = true := decide_eq_true q2
          have hx : impl_ParamsOK.okAt a0_0 a0_1 a0_2 a0_3 a0_4 a0_5 a0_6 a0_7 a0_8 8 = false := by show (decide (0 ≤ a0_8) && decide (a0_8 ≤ 1500)) = false; rw [decide_eq_false (show ¬ a0_8 ≤ 1500 by omega), Bool.and_false]
          have hn : impl_ParamsOK.nums a0_0 a0_1 a0_2 a0_3 a0_4 a0_5 a0_6 a0_7 a0_8 = false := by unfold impl_ParamsOK.nums; rw [hx]; simp
          have hS := HS.out
          clear HS
          rw [hn, if_neg (by simp)] at hS
          obtain rfl := Option.some.inj hS
          clear hS hn hx
          go_wp2_with (first | ((with_reducible refine gate_dst (N := 6) rfl ?_); refine box_event ?hg (N := 6) ?hd (cs := #[.int .i64 0, .nilFunc, .int .i64 0, .int .i64 0, .int .i64 0]) (t := 120) ?hr ?_; (case hd => rfl); (case hg => rfl); (case hr => first | (go_simp; done) | (go_simp; rfl)); intro nb hg w7 hbox hb; have n0_ := Aside0.mk (below_step (by repeat (first | (with_reducible first | exact HB.out | apply below_alloc | apply pw_below_drewN | apply below_drew1 | refine below_set ?_ GE.out) | exact HB.out)) hb); have n1_ := Aside0.mk (blk_below (by (with_reducible repeat (first | exact HP.out | refine blk_drewN ?_ _ | refine blk_drew ?_ | refine blk_alloc ?_ _ | refine blk_far ?_ NHP.out _))) hb); have n2_ := Aside0.mk (blk_below (by (with_reducible repeat (first | exact HR.out | refine blk_drewN ?_ _ | refine blk_drew ?_ | refine blk_alloc ?_ _ | refine blk_far ?_ NHR.out _))) hb); have n3_ := Aside0.mk hbox; have n4_ := Aside0.mk ((by rw [hg]; exact (below_size (by repeat (first | (with_reducible first | exact HB.out | apply below_alloc | apply pw_below_drewN | apply below_drew1 | refine below_set ?_ GE.out) | exact HB.out)))) : w.heap.size ≤ nb); have n5_ := Aside0.mk ((by rw [hg]; exact Nat.ne_of_lt (blk_lt (g := gb) (by (with_reducible repeat (first | exact HP.out | refine blk_drewN ?_ _ | refine blk_drew ?_ | refine blk_alloc ?_ _ | refine blk_far ?_ NHP.out _))))) : gb ≠ nb); have n6_ := Aside0.mk ((by rw [hg]; exact Nat.ne_of_lt (blk_lt (g := rb) (by (with_reducible repeat (first | exact HR.out | refine blk_drewN ?_ _ | refine blk_drew ?_ | refine blk_alloc ?_ _ | refine blk_far ?_ NHR.out _))))) : rb ≠ nb); clear HB HP HR; have HB := n0_; have HP := n1_; have HR := n2_; have HN := n3_; have GE := n4_; have NHP := n5_; have NHR := n6_; clear n0_ n1_ n2_ n3_ n4_ n5_ n6_; clear hb hbox hg; have hnb := NHP.out; have hnc := NHP.out.symm; have hcn_0 : w7.cell? ⟨nb, 0, none⟩ = some (.int .i64 0) := (blk_cell HN.out 0).trans rfl; have hcn_1 : w7.cell? ⟨nb, 1, none⟩ = some (.nilFunc) := (blk_cell HN.out 1).trans rfl; have hcn_2 : w7.cell? ⟨nb, 2, none⟩ = some (.int .i64 0) := (blk_cell HN.out 2).trans rfl; have hcn_3 : w7.cell? ⟨nb, 3, none⟩ = some (.int .i64 0) := (blk_cell HN.out 3).trans rfl; have hcn_4 : w7.cell? ⟨nb, 4, none⟩ = some (.int .i64 0) := (blk_cell HN.out 4).trans rfl; have hfn_0 := blk_frozen HN.out 0; have hfn_1 := blk_frozen HN.out 1; have hfn_2 := blk_frozen HN.out 2; have hfn_3 := blk_frozen HN.out 3; have hfn_4 := blk_frozen HN.out 4; have hcz_8 : World.cell? w7 ⟨gb, 8, none⟩ = some (.int .i64 a0_8) := (blk_cell HP.out 8).trans rfl) | (go_at_call 151; (with_reducible refine (impl_paramAt8 gb _).mono ?_); rintro e w8 ⟨rfl, hd⟩; obtain ⟨m1, hm1⟩ := hd; subst hm1))
          go_ret
          exact ⟨by first | rfl | (simp; done) | (simp [*]; done), (by repeat (first | (with_reducible first | exact HB.out | apply below_alloc | apply pw_below_drewN | apply below_drew1 | refine below_set ?_ GE.out) | exact HB.out))⟩
        · have q2b : decide (1500 < a0_8) = false := decide_eq_false q2
          have hx : impl_ParamsOK.okAt a0_0 a0_1 a0_2 a0_3 a0_4 a0_5 a0_6 a0_7 a0_8 8 = true := by show (decide (0 ≤ a0_8) && decide (a0_8 ≤ 1500)) = true; rw [decide_eq_true (show 0 ≤ a0_8 by omega), decide_eq_true (show a0_8 ≤ 1500 by omega)]; rfl
          have HK2 : Aside0 (∀ j < 9, impl_ParamsOK.okAt a0_0 a0_1 a0_2 a0_3 a0_4 a0_5 a0_6 a0_7 a0_8 j = true) := ⟨fun j hj => by by_cases hl : j < 8; exact HK.out j hl; obtain rfl : j = 8 := (by omega); exact hx⟩
          clear hx HK
          go_wp2_with (first | ((with_reducible refine gate_dst (N := 6) rfl ?_); refine box_event ?hg (N := 6) ?hd (cs := #[.int .i64 0, .nilFunc, .int .i64 0, .int .i64 0, .int .i64 0]) (t := 120) ?hr ?_; (case hd => rfl); (case hg => rfl); (case hr => first | (go_simp; done) | (go_simp; rfl)); intro nb hg w7 hbox hb; have n0_ := Aside0.mk (below_step (by repeat (first | (with_reducible first | exact HB.out | apply below_alloc | apply pw_below_drewN | apply below_drew1 | refine below_set ?_ GE.out) | exact HB.out)) hb); have n1_ := Aside0.mk (blk_below (by (with_reducible repeat (first | exact HP.out | refine blk_drewN ?_ _ | refine blk_drew ?_ | refine blk_alloc ?_ _ | refine blk_far ?_ NHP.out _))) hb); have n2_ := Aside0.mk (blk_below (by (with_reducible repeat (first | exact HR.out | refine blk_drewN ?_ _ | refine blk_drew ?_ | refine blk_alloc ?_ _ | refine blk_far ?_ NHR.out _))) hb); have n3_ := Aside0.mk hbox; have n4_ := Aside0.mk ((by rw [hg]; exact (below_size (by repeat (first | (with_reducible first | exact HB.out | apply below_alloc | apply pw_below_drewN | apply below_drew1 | refine below_set ?_ GE.out) | exact HB.out)))) : w.heap.size ≤ nb); have n5_ := Aside0.mk ((by rw [hg]; exact Nat.ne_of_lt (blk_lt (g := gb) (by (with_reducible repeat (first | exact HP.out | refine blk_drewN ?_ _ | refine blk_drew ?_ | refine blk_alloc ?_ _ | refine blk_far ?_ NHP.out _))))) : gb ≠ nb); have n6_ := Aside0.mk ((by rw [hg]; exact Nat.ne_of_lt (blk_lt (g := rb) (by (with_reducible repeat (first | exact HR.out | refine blk_drewN ?_ _ | refine blk_drew ?_ | refine blk_alloc ?_ _ | refine blk_far ?_ NHR.out _))))) : rb ≠ nb); clear HB HP HR; have HB := n0_; have HP := n1_; have HR := n2_; have HN := n3_; have GE := n4_; have NHP := n5_; have NHR := n6_; clear n0_ n1_ n2_ n3_ n4_ n5_ n6_; clear hb hbox hg; have hnb := NHP.out; have hnc := NHP.out.symm; have hcn_0 : w7.cell? ⟨nb, 0, none⟩ = some (.int .i64 0) := (blk_cell HN.out 0).trans rfl; have hcn_1 : w7.cell? ⟨nb, 1, none⟩ = some (.nilFunc) := (blk_cell HN.out 1).trans rfl; have hcn_2 : w7.cell? ⟨nb, 2, none⟩ = some (.int .i64 0) := (blk_cell HN.out 2).trans rfl; have hcn_3 : w7.cell? ⟨nb, 3, none⟩ = some (.int .i64 0) := (blk_cell HN.out 3).trans rfl; have hcn_4 : w7.cell? ⟨nb, 4, none⟩ = some (.int .i64 0) := (blk_cell HN.out 4).trans rfl; have hfn_0 := blk_frozen HN.out 0; have hfn_1 := blk_frozen HN.out 1; have hfn_2 := blk_frozen HN.out 2; have hfn_3 := blk_frozen HN.out 3; have hfn_4 := blk_frozen HN.out 4; have hcz_8 : World.cell? w7 ⟨gb, 8, none⟩ = some (.int .i64 a0_8) := (blk_cell HP.out 8).trans rfl) | (go_at_call 151; (with_reducible refine (impl_paramAt8 gb _).mono ?_); rintro e w8 ⟨rfl, hd⟩; obtain ⟨m1, hm1⟩ := hd; subst hm1))
          go_roundg m
          case measure => omega
          case rel => exact ⟨9, by go_num, ⟨by have := Hi.out; omega⟩, HK2, ⟨(by (with_reducible repeat (first | exact HP.out | refine blk_drewN ?_ _ | refine blk_drew ?_ | refine blk_alloc ?_ _ | refine blk_far ?_ NHP.out _)))⟩, ⟨(by (with_reducible repeat (first | exact HR.out | refine blk_drewN ?_ _ | refine blk_drew ?_ | refine blk_alloc ?_ _ | refine blk_far ?_ NHR.out _)))⟩, ⟨(by repeat (first | (with_reducible first | exact HB.out | apply below_alloc | apply pw_below_drewN | apply below_drew1 | refine below_set ?_ GE.out) | exact HB.out))⟩⟩
    · have hn : impl_ParamsOK.nums a0_0 a0_1 a0_2 a0_3 a0_4 a0_5 a0_6 a0_7 a0_8 = true := by unfold impl_ParamsOK.nums; rw [HK.out 0 (by decide), HK.out 1 (by decide), HK.out 2 (by decide), HK.out 3 (by decide), HK.out 4 (by decide), HK.out 5 (by decide), HK.out 6 (by decide), HK.out 7 (by decide), HK.out 8 (by decide)]; rfl
      have hS := HS.out
      clear HS
      rw [hn, if_pos rfl] at hS
      have HS := Aside0.mk hS
      clear hS hn
      have hcz_10 : World.cell? _ ⟨gb, 10, none⟩ = some (.slice A0_10 l0_10.length c0_10) := (blk_cell HP.out 10).trans rfl
      have hcz_11 : World.cell? _ ⟨gb, 11, none⟩ = some (.slice A0_11 l0_11.length c0_11) := (blk_cell HP.out 11).trans rfl
      have hcz_12 : World.cell? _ ⟨gb, 12, none⟩ = some (.slice A0_12 l0_12.length c0_12) := (blk_cell HP.out 12).trans rfl
      by_cases q1 : 8 < l0_12.length
      · have q1a : (8 < (l0_12.length : Int)) = True := eq_true (by omega)
        have q1b : decide (8 < (l0_12.length : Int)) = true := decide_eq_true (by omega)
        have q1c : decide (8 < l0_12.length) = true := decide_eq_true (by omega)
        have hb_ : impl_ParamsOK.bad l0_10 l0_11 l0_12 = true := by unfold impl_ParamsOK.bad; simp [*]
        have hS := HS.out
        clear HS
        rw [hb_, if_pos rfl] at hS
        obtain rfl := Option.some.inj hS
        clear hS hb_
        go_wp2
        go_ret
        exact ⟨by first | rfl | (simp; done) | (simp [*]; done), (by repeat (first | (with_reducible first | exact HB.out | apply below_alloc | apply pw_below_drewN | apply below_drew1) | exact HB.out))⟩
      · have q1a : (8 < (l0_12.length : Int)) = False := eq_false (by omega)
        have q1b : decide (8 < (l0_12.length : Int)) = false := decide_eq_false (by omega)
        have q1c : decide (8 < l0_12.length) = false := decide_eq_false (by omega)
        by_cases q2 : 8 < l0_10.length
        · have q2a : (8 < (l0_10.length : Int)) = True := eq_true (by omega)
          have q2b : decide (8 < (l0_10.length : Int)) = true := decide_eq_true (by omega)
          have q2c : decide (8 < l0_10.length) = true := decide_eq_true (by omega)
          have hb_ : impl_ParamsOK.bad l0_10 l0_11 l0_12 = true := by unfold impl_ParamsOK.bad; simp [*]
          have hS := HS.out
          clear HS
          rw [hb_, if_pos rfl] at hS
          obtain rfl := Option.some.inj hS
          clear hS hb_
          go_wp2
          go_ret
          exact ⟨by first | rfl | (simp; done) | (simp [*]; done), (by repeat (first | (with_reducible first | exact HB.out | apply below_alloc | apply pw_below_drewN | apply below_drew1) | exact HB.out))⟩
        · have q2a : (8 < (l0_10.length : Int)) = False := eq_false (by omega)
          have q2b : decide (8 < (l0_10.length : Int)) = false := decide_eq_false (by omega)
          have q2c : decide (8 < l0_10.length) = false := decide_eq_false (by omega)
          by_cases q3 : l0_11 = []
          · subst q3
            have hb_ : impl_ParamsOK.bad l0_10 [] l0_12 = false := by unfold impl_ParamsOK.bad; simp [*]
            have hS := HS.out
            clear HS
            rw [hb_, if_neg (by simp)] at hS
            have hS2 := Option.some.inj hS
            clear hS hb_
            cases a1 with
            | true =>
              simp only [Bool.true_or] at hS2
              subst hS2
              go_wp2
              go_ret
              exact ⟨by first | rfl | (simp; done) | (simp [*]; done), (by repeat (first | (with_reducible first | exact HB.out | apply below_alloc | apply pw_below_drewN | apply below_drew1) | exact HB.out))⟩
            | false =>
              by_cases q4 : l0_10 = []
              · subst q4
                simp [*] at hS2
                subst hS2
                go_wp2
                go_ret
                exact ⟨by first | rfl | (simp; done) | (simp [*]; done), (by repeat (first | (with_reducible first | exact HB.out | apply below_alloc | apply pw_below_drewN | apply below_drew1) | exact HB.out))⟩
              · have q4n := List.length_pos_iff.2 q4
                have q4d : ((l0_10.length : Int) != 0) = true := bne_iff_ne.2 (by omega)
                have q4f : ((l0_10.length : Int) == 0) = false := beq_eq_false_iff_ne.2 (by omega)
                have q4e : (l0_10.length = 0) = False := eq_false (by omega)
                clear q4n
                simp [*] at hS2
                subst hS2
                go_wp2
                go_ret
                exact ⟨by first | rfl | (simp; done) | (simp [*]; done), (by repeat (first | (with_reducible first | exact HB.out | apply below_alloc | apply pw_below_drewN | apply below_drew1) | exact HB.out))⟩
          · have q3n := List.length_pos_iff.2 q3
            have q3d : ((l0_11.length : Int) != 0) = true := bne_iff_ne.2 (by omega)
            have q3f : ((l0_11.length : Int) == 0) = false := beq_eq_false_iff_ne.2 (by omega)
            have q3e : (l0_11.length = 0) = False := eq_false (by omega)
            clear q3n
            by_cases q5 : l0_11.length = 8
            · have q5a : ((l0_11.length : Int) != 8) = false := bne_eq_false_iff_eq.2 (by omega)
              have hb_ : impl_ParamsOK.bad l0_10 l0_11 l0_12 = false := by unfold impl_ParamsOK.bad; simp [*]
              have hS := HS.out
              clear HS
              rw [hb_, if_neg (by simp)] at hS
              have hS2 := Option.some.inj hS
              clear hS hb_
              cases a1 with
              | true =>
                simp only [Bool.true_or] at hS2
                subst hS2
                go_wp2
                go_ret
                exact ⟨by first | rfl | (simp; done) | (simp [*]; done), (by repeat (first | (with_reducible first | exact HB.out | apply below_alloc | apply pw_below_drewN | apply below_drew1) | exact HB.out))⟩
              | false =>
                by_cases q6 : l0_10 = []
                · subst q6
                  simp [*] at hS2
                  subst hS2
                  go_wp2
                  go_ret
                  exact ⟨by first | rfl | (simp; done) | (simp [*]; done), (by repeat (first | (with_reducible first | exact HB.out | apply below_alloc | apply pw_below_drewN | apply below_drew1) | exact HB.out))⟩
                · have q6n := List.length_pos_iff.2 q6
                  have q6d : ((l0_10.length : Int) != 0) = true := bne_iff_ne.2 (by omega)
                  have q6f : ((l0_10.length : Int) == 0) = false := beq_eq_false_iff_ne.2 (by omega)
                  have q6e : (l0_10.length = 0) = False := eq_false (by omega)
                  clear q6n
                  simp [*] at hS2
                  subst hS2
                  go_wp2
                  go_ret
                  exact ⟨by first | rfl | (simp; done) | (simp [*]; done), (by repeat (first | (with_reducible first | exact HB.out | apply below_alloc | apply pw_below_drewN | apply below_drew1) | exact HB.out))⟩
            · have q5a : ((l0_11.length : Int) != 8) = true := bne_iff_ne.2 (by omega)
              have hb_ : impl_ParamsOK.bad l0_10 l0_11 l0_12 = true := by unfold impl_ParamsOK.bad; simp [*]
              have hS := HS.out
              clear HS
              rw [hb_, if_pos rfl] at hS
              obtain rfl := Option.some.inj hS
              clear hS hb_
              go_wp2
              go_ret
              exact ⟨by first | rfl | (simp; done) | (simp [*]; done), (by repeat (first | (with_reducible first | exact HB.out | apply below_alloc | apply pw_below_drewN | apply below_drew1) | exact HB.out))⟩

/-! ### laws_eqByteS: function 61 -/
def laws_eqByteS.l0 : Nat → List Int → List Int → Int → Option (Bool)
  | 0, _, _, _ => none
  | k + 1, x0, x1, x5 => if x5 < (x0.length : Int) then (if 0 ≤ x5 then (if x5 < (x1.length : Int) then (if (rd x0 x5) = (rd x1 x5) then (laws_eqByteS.l0 k x0 x1 (wrap64 (x5 + 1))) else (some false)) else (none)) else (none)) else (some true)
def laws_eqByteS.f (k : Nat) (l0 : List Int) (l1 : List Int) : Option (Bool) := if (l0.length : Int) = (l1.length : Int) then (laws_eqByteS.l0 k l0 l1 0) else (some false)
theorem laws_eqByteS.mono_l : ∀ k, (∀ y0 y1 y2, LeO (laws_eqByteS.l0 k y0 y1 y2) (laws_eqByteS.l0 (k + 1) y0 y1 y2))
  | 0 => fun _ _ _ r h => by simp [laws_eqByteS.l0] at h
  | k + 1 => by
    have ih0 := laws_eqByteS.mono_l k
    · intro y0 y1 y2
      unfold laws_eqByteS.l0
      repeat' first
      | (with_reducible exact ih0 _ _ _)
      | (with_reducible exact LeO.refl _)
      | (with_reducible exact LeO.none _)
      | (with_reducible refine LeO.ite ?_ ?_)
      | (with_reducible refine LeO.bind ?_ (fun _ => ?_))
      | exact ih0 _ _ _
      | exact LeO.none _
      | refine LeO.ite ?_ ?_
      | refine LeO.bind ?_ (fun _ => ?_)
theorem laws_eqByteS.mono : ∀ a0 a1 k, LeO (laws_eqByteS.f k a0 a1) (laws_eqByteS.f (k + 1) a0 a1) := by
  intro a0 a1 k
  have ih0 := laws_eqByteS.mono_l k
  unfold laws_eqByteS.f
  repeat' first
      | (with_reducible exact ih0 _ _ _)
      | (with_reducible exact LeO.refl _)
      | (with_reducible exact LeO.none _)
      | (with_reducible refine LeO.ite ?_ ?_)
      | (with_reducible refine LeO.bind ?_ (fun _ => ?_))
      | exact ih0 _ _ _
      | exact LeO.none _
      | refine LeO.ite ?_ ?_
      | refine LeO.bind ?_ (fun _ => ?_)
set_option maxHeartbeats 8000000 in
set_option maxRecDepth 100000 in
theorem laws_eqByteS.calls (k : Nat) (A0 : Option Addr) (c0 : Nat) (l0 : List Int) (A1 : Option Addr) (c1 : Nat) (l1 : List Int) (r : Bool) (w : World) (hr0 : Kd.C (Kd.int .u8) w A0 l0.length l0) (hc0 : l0.length ≤ c0) (hr1 : Kd.C (Kd.int .u8) w A1 l1.length l1) (hc1 : l1.length ≤ c1) (h : laws_eqByteS.f k l0 l1 = some r) :
    Calls Try.prog 61 #[.slice A0 l0.length c0, .slice A1 l1.length c1] w fun e w' => e = .returned (.bool r) ∧ Drawn0 w w' := by
  have HR0 := Aside0.mk hr0
  have HC0 := Aside0.mk hc0
  clear hr0 hc0
  have HR1 := Aside0.mk hr1
  have HC1 := Aside0.mk hc1
  clear hr1 hc1
  have H : (if (l0.length : Int) = (l1.length : Int) then (laws_eqByteS.l0 k l0 l1 0) else (some false)) = some r := h
  clear h
  by_cases c3 : (l0.length : Int) = (l1.length : Int)
  · rw [if_pos c3] at H
    have c3b0 : ((l0.length : Int) == (l1.length : Int)) = true := beq_iff_eq.mpr c3
    have c3b1 : ((l0.length : Int) != (l1.length : Int)) = false := bne_eq_false_iff_eq.mpr c3
    have c3b2 : (l0.length == l1.length) = true := by first | simpa using c3 | (simp at c3 ⊢; omega)
    clear c3
    have H' := Aside0.mk H
    clear H
    go_enter Try.func61, Try.ntmps61
    go_wp2
    repeat (go_quiet (fail); try go_wp2)
    go_loopg [5] k (fun kq v5 w' => ∃ (x5_1 : Int), v5 = .int .i64 x5_1 ∧ Aside0 (laws_eqByteS.l0 kq l0 l1 x5_1 = some r) ∧ Aside0 (kq ≤ k) ∧ Drawn0 w w')
    case atStart => exact ⟨(0), (by first | rfl | (simp; done) | (simp [*]; done)), H', ⟨Nat.le_refl _⟩, by repeat (first | exact Drawn0.refl _ | apply Drawn0.step)⟩
    case round =>
      clear H'
      try clear c1
      try clear p2
      try clear c3
      try clear c3b0
      try clear c3b1
      try clear c3b2
      obtain ⟨x5_1, rfl, HA, HK1, ⟨m1, rfl⟩⟩ := hrel
      cases gk with
      | zero => exact absurd HA.out (by simp [laws_eqByteS.l0])
      | succ k1 =>
        have H := HA.out
        clear HA
        simp only [laws_eqByteS.l0] at H
        by_cases c4 : x5_1 < (l0.length : Int)
        · rw [if_pos c4] at H
          have c4b0 : decide (x5_1 < (l0.length : Int)) = true := decide_eq_true c4
          clear c4
          by_cases c5 : 0 ≤ x5_1
          · rw [if_pos c5] at H
            have c5b0 : decide (0 ≤ x5_1) = true := decide_eq_true c5
            clear c5
            by_cases c6 : x5_1 < (l1.length : Int)
            · rw [if_pos c6] at H
              have c6b0 : decide (x5_1 < (l1.length : Int)) = true := decide_eq_true c6
              clear c6
              by_cases c7 : (rd l0 x5_1) = (rd l1 x5_1)
              · rw [if_pos c7] at H
                have c7b0 : ((rd l0 x5_1) == (rd l1 x5_1)) = true := beq_iff_eq.mpr c7
                have c7b1 : ((rd l0 x5_1) != (rd l1 x5_1)) = false := bne_eq_false_iff_eq.mpr c7
                clear c7
                have H' := Aside0.mk H
                clear H
                have p122 : 0 ≤ (x5_1 : Int) := of_decide_eq_true (by first | (with_reducible assumption) | assumption)
                have q122 : x5_1 < (l0.length : Int) := of_decide_eq_true (by first | (with_reducible assumption) | assumption)
                obtain ⟨ad122, e122, hx122_0⟩ := Kd.at_int HR0.out x5_1 p122 q122
                cases e122
                replace p122 := eq_true p122
                replace q122 := eq_true q122
                have p123 : 0 ≤ (x5_1 : Int) := of_decide_eq_true (by first | (with_reducible assumption) | assumption)
                have q123 : x5_1 < (l1.length : Int) := of_decide_eq_true (by first | (with_reducible assumption) | assumption)
                obtain ⟨ad123, e123, hx123_0⟩ := Kd.at_int HR1.out x5_1 p123 q123
                cases e123
                replace p123 := eq_true p123
                replace q123 := eq_true q123
                go_wp2
                repeat (go_quiet (fail); try go_wp2)
                go_roundg k1
                case measure => have := HK1.out; omega
                case rel => exact ⟨(wrap64 (x5_1 + 1)), (by first | rfl | (simp; done) | (simp [*]; done)), H', ⟨by have := HK1.out; omega⟩, by repeat (first | exact Drawn0.refl _ | apply Drawn0.step)⟩
              · rw [if_neg c7] at H
                have c7b0 : ((rd l0 x5_1) == (rd l1 x5_1)) = false := beq_eq_false_iff_ne.mpr c7
                have c7b1 : ((rd l0 x5_1) != (rd l1 x5_1)) = true := bne_iff_ne.mpr c7
                obtain rfl := Option.some.inj H
                have p122 : 0 ≤ (x5_1 : Int) := of_decide_eq_true (by first | (with_reducible assumption) | assumption)
                have q122 : x5_1 < (l0.length : Int) := of_decide_eq_true (by first | (with_reducible assumption) | assumption)
                obtain ⟨ad122, e122, hx122_0⟩ := Kd.at_int HR0.out x5_1 p122 q122
                cases e122
                replace p122 := eq_true p122
                replace q122 := eq_true q122
                have p123 : 0 ≤ (x5_1 : Int) := of_decide_eq_true (by first | (with_reducible assumption) | assumption)
                have q123 : x5_1 < (l1.length : Int) := of_decide_eq_true (by first | (with_reducible assumption) | assumption)
                obtain ⟨ad123, e123, hx123_0⟩ := Kd.at_int HR1.out x5_1 p123 q123
                cases e123
                replace p123 := eq_true p123
                replace q123 := eq_true q123
                go_wp2
                repeat (go_quiet (fail); try go_wp2)
                go_ret
                exact ⟨by first | rfl | (simp; done) | (simp [*]; done), by repeat (first | exact Drawn0.refl _ | apply Drawn0.step)⟩
            · rw [if_neg c6] at H
              exact absurd H (by simp)
          · rw [if_neg c5] at H
            exact absurd H (by simp)
        · rw [if_neg c4] at H
          have c4b0 : decide (x5_1 < (l0.length : Int)) = false := decide_eq_false c4
          clear c4
          obtain rfl := Option.some.inj H
          go_wp2
          repeat (go_quiet (fail); try go_wp2)
          go_ret
          exact ⟨by first | rfl | (simp; done) | (simp [*]; done), by repeat (first | exact Drawn0.refl _ | apply Drawn0.step)⟩
  · rw [if_neg c3] at H
    have c3b0 : ((l0.length : Int) == (l1.length : Int)) = false := beq_eq_false_iff_ne.mpr c3
    have c3b1 : ((l0.length : Int) != (l1.length : Int)) = true := bne_iff_ne.mpr c3
    have c3b2 : (l0.length == l1.length) = false := by first | simpa using c3 | (simp at c3 ⊢; omega)
    obtain rfl := Option.some.inj H
    go_enter Try.func61, Try.ntmps61
    go_wp2
    repeat (go_quiet (fail); try go_wp2)
    go_ret
    exact ⟨by first | rfl | (simp; done) | (simp [*]; done), by repeat (first | exact Drawn0.refl _ | apply Drawn0.step)⟩

end Go.Proofs.Ytjhcphcjpndciaa.PFnExactParamsOK
