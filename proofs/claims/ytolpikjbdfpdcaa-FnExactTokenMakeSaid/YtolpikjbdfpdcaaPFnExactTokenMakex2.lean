-- Written by a program of this repo (xprint.py) out of the translation; Lean checks it.
import Derived.Test.YtolpikjbdfpdcaaPFnExactTokenMakex0
import Derived.Test.YtolpikjbdfpdcaaPFnExactTokenMakex1
namespace Go.Proofs.Ytolpikjbdfpdcaa.PFnExactTokenMake
open Go.RowKit Go.Proofs.YtolpikjbdfpdcaaW.PrintWords Go.Proofs.YtolpikjbdfpdcaaW.PrintLast Go.Proofs.YtolpikjbdfpdcaaW.PrintMore
attribute [local go_sem] max2_int min2_int max_two min_two max_three min_three max_four min_four   -- for this text's walks alone
set_option linter.unusedVariables false
set_option linter.unusedSimpArgs false

/-! ### spec_l03Stir: function 136 -/
def spec_l03Stir.l0 : Nat → List Int → Int → Int → Int → Int → Int → Option (Int × Int × Int × Int)
  | 0, _, _, _, _, _, _ => none
  | k + 1, x1, x5, x128000, x128001, x128002, x128003 => if x5 < (x1.length : Int) then (if 0 ≤ x5 then ((spec_l03Rot.f ((x128001 + (((Go.bits .xor .u32 x128000 ((rd x1 x5) % 4294967296)) * 16777619) % 4294967296)) % 4294967296) 7).bind fun t130 => ((spec_l03Rot.f (Go.bits .xor .u32 x128002 t130) 13).bind fun t131 => ((spec_l03Rot.f ((x128003 + t131) % 4294967296) 17).bind fun t132 => (spec_l03Stir.l0 k x1 (wrap64 (x5 + 1)) (Go.bits .xor .u32 (((Go.bits .xor .u32 x128000 ((rd x1 x5) % 4294967296)) * 16777619) % 4294967296) t132) t130 t131 t132)))) else (none)) else (some (x128000, x128001, x128002, x128003))
def spec_l03Stir.f (k : Nat) (a0_0 : Int) (a0_1 : Int) (a0_2 : Int) (a0_3 : Int) (l1 : List Int) : Option (Int × Int × Int × Int) := spec_l03Stir.l0 k l1 0 a0_0 a0_1 a0_2 a0_3
theorem spec_l03Stir.mono_l : ∀ k, (∀ y0 y1 y2 y3 y4 y5, LeO (spec_l03Stir.l0 k y0 y1 y2 y3 y4 y5) (spec_l03Stir.l0 (k + 1) y0 y1 y2 y3 y4 y5))
  | 0 => fun _ _ _ _ _ _ r h => by simp [spec_l03Stir.l0] at h
  | k + 1 => by
    have ih0 := spec_l03Stir.mono_l k
    · intro y0 y1 y2 y3 y4 y5
      unfold spec_l03Stir.l0
      repeat' first
      | (with_reducible exact ih0 _ _ _ _ _ _)
      | (with_reducible exact LeO.refl _)
      | (with_reducible exact LeO.none _)
      | (with_reducible refine LeO.ite ?_ ?_)
      | (with_reducible refine LeO.bind ?_ (fun _ => ?_))
      | exact ih0 _ _ _ _ _ _
      | exact LeO.none _
      | refine LeO.ite ?_ ?_
      | refine LeO.bind ?_ (fun _ => ?_)
theorem spec_l03Stir.mono : ∀ a0 a1 a2 a3 a4 k, LeO (spec_l03Stir.f k a0 a1 a2 a3 a4) (spec_l03Stir.f (k + 1) a0 a1 a2 a3 a4) := by
  intro a0 a1 a2 a3 a4 k
  have ih0 := spec_l03Stir.mono_l k
  unfold spec_l03Stir.f
  repeat' first
      | (with_reducible exact ih0 _ _ _ _ _ _)
      | (with_reducible exact LeO.refl _)
      | (with_reducible exact LeO.none _)
      | (with_reducible refine LeO.ite ?_ ?_)
      | (with_reducible refine LeO.bind ?_ (fun _ => ?_))
      | exact ih0 _ _ _ _ _ _
      | exact LeO.none _
      | refine LeO.ite ?_ ?_
      | refine LeO.bind ?_ (fun _ => ?_)
def spec_l03Stir.T4 : Bool × List (List Nat × List Nat) := (true, [([], []), ([0], [0]), ([], []), ([], []), ([2, 3], [2, 3]), ([4], [4]), ([5], [5]), ([1, 6], [1, 6]), ([7], [7]), ([0, 1, 2, 3, 4, 5, 6, 7, 8], []), ([9, 8, 0, 1, 2, 3, 4, 5, 6, 7, 8], [8, 9])])
def spec_l03Stir.B4 : List Nat := [0, 1, 0, 0, 12, 28, 60, 127, 255, 511, 1023]
theorem spec_l03Stir.tab4 : rtab .any (opsOf Try.f136 4) = spec_l03Stir.T4 := by kernel_rfl
theorem spec_l03Stir.bits4 : waitsOk spec_l03Stir.T4.2 spec_l03Stir.B4 = true := by kernel_rfl
set_option maxHeartbeats 8000000 in
set_option maxRecDepth 100000 in
theorem spec_l03Stir.calls (k : Nat) (a0_0 : Int) (a0_1 : Int) (a0_2 : Int) (a0_3 : Int) (A1 : Option Addr) (c1 : Nat) (l1 : List Int) (r1 : Int) (r2 : Int) (r3 : Int) (r4 : Int) (w : World) (hr1 : Kd.C (Kd.int .u8) w A1 l1.length l1) (hc1 : l1.length ≤ c1) (h : spec_l03Stir.f k a0_0 a0_1 a0_2 a0_3 l1 = some (r1, r2, r3, r4)) :
    Calls Try.prog 136 #[.agg #[.int .u32 a0_0, .int .u32 a0_1, .int .u32 a0_2, .int .u32 a0_3], .slice A1 l1.length c1] w fun e w' => e = .returned (.agg #[.int .u32 r1, .int .u32 r2, .int .u32 r3, .int .u32 r4]) ∧ Below w.heap.size w w' := by
  have hu153 := Try.underlying153
  have HR1 := Aside0.mk hr1
  have HC1 := Aside0.mk hc1
  clear hr1 hc1
  have HB := Aside0.mk (Below.refl w.heap.size w)
  have H : (spec_l03Stir.l0 k l1 0 a0_0 a0_1 a0_2 a0_3) = some (r1, r2, r3, r4) := h
  clear h
  have H' := Aside0.mk H
  clear H
  go_enter Try.func136, Try.ntmps136
  go_wp2_with (first | ((with_reducible refine gate_dst (N := 2) rfl ?_); refine box_event ?hg (N := 2) ?hd (cs := #[.int .u32 a0_0, .int .u32 a0_1, .int .u32 a0_2, .int .u32 a0_3]) (t := 153) ?hr ?_; (case hd => rfl); (case hg => rfl); (case hr => first | (go_simp; done) | (go_simp; rfl)); intro gb127 hg w3 hbox hb; have n0_ := Aside0.mk (below_step (by repeat (first | (with_reducible first | exact HB.out | apply below_alloc | apply pw_below_drewN | apply below_drew1) | exact HB.out)) hb); have n1_ := Aside0.mk (hbox); have n2_ := Aside0.mk ((by rw [hg]; exact (below_size (by repeat (first | (with_reducible first | exact HB.out | apply below_alloc | apply pw_below_drewN | apply below_drew1) | exact HB.out))) : w.heap.size ≤ gb127)); have n3_ := Aside0.mk ((by rw [hg]; exact (below_size (by repeat (first | (with_reducible first | exact HB.out | apply below_alloc | apply pw_below_drewN | apply below_drew1) | exact HB.out))) : w.heap.size ≤ gb127)); clear HB; have HB := n0_; have BK127 := n1_; have GW127 := n2_; have GE127 := n3_; clear n0_ n1_ n2_ n3_; clear hb hbox hg) | ((with_reducible refine gate_dst (N := 4) rfl ?_); refine box_event ?hg (N := 4) ?hd (cs := #[.int .u32 0, .int .u32 0, .int .u32 0, .int .u32 0]) (t := 153) ?hr ?_; (case hd => rfl); (case hg => rfl); (case hr => first | (go_simp; done) | (go_simp; rfl)); intro gb128 hg w4 hbox hb; have n0_ := Aside0.mk (blk_below (g := gb127) (o := .cells #[.int .u32 a0_0, .int .u32 a0_1, .int .u32 a0_2, .int .u32 a0_3] 153 (0, 0)) (by (with_reducible repeat (first | refine blk_drewN ?_ _ | refine blk_drew ?_ | refine blk_alloc ?_ _)); exact BK127.out) hb); have n1_ := Aside0.mk (below_step (by repeat (first | (with_reducible first | exact HB.out | apply below_alloc | apply pw_below_drewN | apply below_drew1 | refine below_set ?_ GE127.out) | exact HB.out)) hb); have n2_ := Aside0.mk (hbox); have n3_ := Aside0.mk ((by rw [hg]; exact (below_size (by repeat (first | (with_reducible first | exact HB.out | apply below_alloc | apply pw_below_drewN | apply below_drew1 | refine below_set ?_ GE127.out) | exact HB.out))) : w.heap.size ≤ gb128)); have n4_ := Aside0.mk ((by rw [hg]; exact (below_size (by repeat (first | (with_reducible first | exact HB.out | apply below_alloc | apply pw_below_drewN | apply below_drew1 | refine below_set ?_ GE127.out) | exact HB.out))) : w.heap.size ≤ gb128)); have n5_ := Aside0.mk ((by rw [hg]; exact Nat.ne_of_lt (blk_lt (g := gb127) (o := .cells #[.int .u32 a0_0, .int .u32 a0_1, .int .u32 a0_2, .int .u32 a0_3] 153 (0, 0)) (by (with_reducible repeat (first | refine blk_drewN ?_ _ | refine blk_drew ?_ | refine blk_alloc ?_ _)); exact BK127.out)) : gb127 ≠ gb128)); have n6_ := Aside0.mk ((by rw [hg]; exact Nat.ne_of_gt (blk_lt (g := gb127) (o := .cells #[.int .u32 a0_0, .int .u32 a0_1, .int .u32 a0_2, .int .u32 a0_3] 153 (0, 0)) (by (with_reducible repeat (first | refine blk_drewN ?_ _ | refine blk_drew ?_ | refine blk_alloc ?_ _)); exact BK127.out)) : gb128 ≠ gb127)); clear BK127; clear HB; have BK127 := n0_; have HB := n1_; have BK128 := n2_; have GW128 := n3_; have GE128 := n4_; have NB127_128 := n5_; have NB128_127 := n6_; clear n0_ n1_ n2_ n3_ n4_ n5_ n6_; clear hb hbox hg))
  go_loopg [5] k (fun kq v5 w' => ∃ (x5_1 : Int) (x128000_1 : Int) (x128001_1 : Int) (x128002_1 : Int) (x128003_1 : Int), v5 = .int .i64 x5_1 ∧ Aside0 (spec_l03Stir.l0 kq l1 x5_1 x128000_1 x128001_1 x128002_1 x128003_1 = some (r1, r2, r3, r4)) ∧ Aside0 (kq ≤ k) ∧ Aside0 (w'.heap[gb127]? = some (.cells #[.int .u32 x128000_1, .int .u32 x128001_1, .int .u32 x128002_1, .int .u32 x128003_1] 153 (0, 0))) ∧ Aside0 (w'.heap[gb128]? = some (.cells #[.int .u32 0, .int .u32 0, .int .u32 0, .int .u32 0] 153 (0, 0))) ∧ Aside0 (Below w.heap.size w w'))
  case atStart => exact ⟨(0), (a0_0), (a0_1), (a0_2), (a0_3), (by first | rfl | (simp; done) | (simp [*]; done)), H', ⟨Nat.le_refl _⟩, ⟨by (with_reducible repeat (first | refine blk_drewN ?_ _ | refine blk_drew ?_ | refine blk_alloc ?_ _)); exact BK127.out⟩, ⟨by (with_reducible repeat (first | refine blk_drewN ?_ _ | refine blk_drew ?_ | refine blk_alloc ?_ _)); exact BK128.out⟩, ⟨by repeat (first | (with_reducible first | exact HB.out | apply below_alloc | apply pw_below_drewN | apply below_drew1 | refine below_set ?_ GE127.out | refine below_set ?_ GE128.out) | exact HB.out)⟩⟩
  case round =>
    clear H'
    try clear c1
    try clear p2
    obtain ⟨x5_1, x128000_1, x128001_1, x128002_1, x128003_1, rfl, HA, HK1, BK127, BK128, HB⟩ := hrel
    cases gk with
    | zero => exact absurd HA.out (by simp [spec_l03Stir.l0])
    | succ k1 =>
      have H := HA.out
      clear HA
      simp only [spec_l03Stir.l0] at H
      by_cases c5 : x5_1 < (l1.length : Int)
      · rw [if_pos c5] at H
        have c5b0 : decide (x5_1 < (l1.length : Int)) = true := decide_eq_true c5
        clear c5
        by_cases c6 : 0 ≤ x5_1
        · rw [if_pos c6] at H
          have c6b0 : decide (0 ≤ x5_1) = true := decide_eq_true c6
          clear c6
          replace H := Option.bind_eq_some_iff.mp H
          obtain ⟨t130, A70, H⟩ := H
          replace H : ((spec_l03Rot.f (Go.bits .xor .u32 x128002_1 t130) 13).bind fun t131 => ((spec_l03Rot.f ((x128003_1 + t131) % 4294967296) 17).bind fun t132 => (spec_l03Stir.l0 k1 l1 (wrap64 (x5_1 + 1)) (Go.bits .xor .u32 (((Go.bits .xor .u32 x128000_1 ((rd l1 x5_1) % 4294967296)) * 16777619) % 4294967296) t132) t130 t131 t132))) = some (r1, r2, r3, r4) := H
          have A7 := Aside0.mk A70
          clear A70
          replace H := Option.bind_eq_some_iff.mp H
          obtain ⟨t131, A80, H⟩ := H
          replace H : ((spec_l03Rot.f ((x128003_1 + t131) % 4294967296) 17).bind fun t132 => (spec_l03Stir.l0 k1 l1 (wrap64 (x5_1 + 1)) (Go.bits .xor .u32 (((Go.bits .xor .u32 x128000_1 ((rd l1 x5_1) % 4294967296)) * 16777619) % 4294967296) t132) t130 t131 t132)) = some (r1, r2, r3, r4) := H
          have A8 := Aside0.mk A80
          clear A80
          replace H := Option.bind_eq_some_iff.mp H
          obtain ⟨t132, A90, H⟩ := H
          replace H : (spec_l03Stir.l0 k1 l1 (wrap64 (x5_1 + 1)) (Go.bits .xor .u32 (((Go.bits .xor .u32 x128000_1 ((rd l1 x5_1) % 4294967296)) * 16777619) % 4294967296) t132) t130 t131 t132) = some (r1, r2, r3, r4) := H
          have A9 := Aside0.mk A90
          clear A90
          have H' := Aside0.mk H
          clear H
          try go_wp2
          have n0_ := Aside0.mk (blk_drew BK127.out)
          have n1_ := Aside0.mk (blk_drew BK128.out)
          have n2_ := Aside0.mk (below_drew1 HB.out)
          clear BK127
          clear BK128
          clear HB
          have BK127 := n0_
          have BK128 := n1_
          have HB := n2_
          clear n0_ n1_ n2_
          have p129 : 0 ≤ (x5_1 : Int) := of_decide_eq_true (by first | (with_reducible assumption) | assumption)
          have q129 : x5_1 < (l1.length : Int) := of_decide_eq_true (by first | (with_reducible assumption) | assumption)
          obtain ⟨ad129, e129, hx129_0⟩ := Kd.at_int HR1.out x5_1 p129 q129
          have hw129_0 := hx129_0
          cases e129
          replace hx129_0 := (HB.out.cell (World.block_lt_of_cell? w _ hx129_0)).trans hx129_0
          replace p129 := eq_true p129
          replace q129 := eq_true q129
          refine start_ (n := 11) (S := fun w' => w'.cell? ⟨gb127, 0, none⟩ = some (.int .u32 x128000_1) ∧ w'.cell? ⟨gb127, 1, none⟩ = some (.int .u32 x128001_1) ∧ w'.cell? ⟨gb127, 2, none⟩ = some (.int .u32 x128002_1) ∧ w'.cell? ⟨gb127, 3, none⟩ = some (.int .u32 x128003_1) ∧ w'.cell? (ad129.add (x5_1).toNat) = some (.int .u8 (rd l1 x5_1))) (ds := [10]) #[false, false, false, false, false, false, false, false, false, false, false] (by kernel_rfl) rfl rfl ⟨(blk_cell BK127.out 0).trans rfl, (blk_cell BK127.out 1).trans rfl, (blk_cell BK127.out 2).trans rfl, (blk_cell BK127.out 3).trans rfl, ((HB.out.cell (World.block_lt_of_cell? w _ hw129_0)).trans hw129_0)⟩ (fun hHeld => ?_); refine with_tabW spec_l03Stir.tab4 spec_l03Stir.bits4 (fun HT_ HW_ => ?_)
          generalize wr.drew = w10 at BK127 BK128 HB hx129_0 hHeld ⊢
          refine pure_ (i := 0) (N := some 12) (v := ?_) (a' := ?_) #[true, false, false, false, false, false, false, false, false, false, false] rfl rfl (any_of HT_.out (by kernel_rfl)) (fun _ _ _ h => h) (Or.inl ⟨by rfl, ?_⟩) ?_ ?_
          rotate_left
          · intro w'
            go_simp
            with_reducible rfl
          rotate_left
          · simp only [Act.put, List.setIfInBounds_toArray, List.set_cons_zero, List.set_cons_succ, i64_w, i32_w]
            rfl
          refine pure_ (i := 2) (N := some 14) (v := ?_) (a' := ?_) #[true, false, true, false, false, false, false, false, false, false, false] rfl rfl (any_of HT_.out (by kernel_rfl)) (fun _ _ _ h => h) (Or.inl ⟨by rfl, ?_⟩) ?_ ?_
          rotate_left
          · intro w'
            go_simp
            with_reducible rfl
          rotate_left
          · simp only [Act.put, List.setIfInBounds_toArray, List.set_cons_zero, List.set_cons_succ, i64_w, i32_w]
            rfl
          refine pure_ (i := 3) (N := some 15) (v := ?_) (a' := ?_) #[true, false, true, true, false, false, false, false, false, false, false] rfl rfl (any_of HT_.out (by kernel_rfl)) (fun _ _ _ h => h) (Or.inl ⟨by rfl, ?_⟩) ?_ ?_
          rotate_left
          · intro w'
            go_simp
            with_reducible rfl
          rotate_left
          · simp only [Act.put, List.setIfInBounds_toArray, List.set_cons_zero, List.set_cons_succ, i64_w, i32_w]
            rfl
          refine pure_ (i := 4) (N := some 16) (v := ?_) (a' := ?_) #[true, false, true, true, true, false, false, false, false, false, false] rfl rfl (any_of HT_.out (by kernel_rfl)) (fun _ _ _ h => h) (Or.inl ⟨by rfl, ?_⟩) ?_ ?_
          rotate_left
          · intro w'
            go_simp
            with_reducible rfl
          rotate_left
          · simp only [Act.put, List.setIfInBounds_toArray, List.set_cons_zero, List.set_cons_succ, i64_w, i32_w]
            rfl
          refine take_ (i := 1) (N := some 13) (v := ?_) (a' := ?_) #[true, true, true, true, true, false, false, false, false, false, false] rfl rfl (take_ofW HT_.out HW_.out (by kernel_rfl)) (fun _ _ _ h => h) (Or.inl ⟨by rfl, ?_⟩) hHeld ?_ ?_
          rotate_left
          · rintro w' ⟨s0, s1, s2, s3, s4⟩
            go_simp
            with_reducible rfl
          rotate_left
          · simp only [Act.put, List.setIfInBounds_toArray, List.set_cons_zero, List.set_cons_succ, i64_w, i32_w]
            rfl
          refine take_ (i := 5) (N := some 17) (v := ?_) (a' := ?_) #[true, true, true, true, true, true, false, false, false, false, false] rfl rfl (take_ofW HT_.out HW_.out (by kernel_rfl)) (fun _ _ _ h => h) (Or.inl ⟨by rfl, ?_⟩) hHeld ?_ ?_
          rotate_left
          · rintro w' ⟨s0, s1, s2, s3, s4⟩
            go_simp
            with_reducible rfl
          rotate_left
          · simp only [Act.put, List.setIfInBounds_toArray, List.set_cons_zero, List.set_cons_succ, i64_w, i32_w]
            rfl
          refine pure_ (i := 6) (N := some 18) (v := ?_) (a' := ?_) #[true, true, true, true, true, true, true, false, false, false, false] rfl rfl (any_of HT_.out (by kernel_rfl)) (fun _ _ _ h => h) (Or.inl ⟨by rfl, ?_⟩) ?_ ?_
          rotate_left
          · intro w'
            go_simp
            with_reducible rfl
          rotate_left
          · simp only [Act.put, List.setIfInBounds_toArray, List.set_cons_zero, List.set_cons_succ, i64_w, i32_w]
            rfl
          refine pure_ (i := 7) (N := some 19) (v := ?_) (a' := ?_) #[true, true, true, true, true, true, true, true, false, false, false] rfl rfl (any_of HT_.out (by kernel_rfl)) (fun _ _ _ h => h) (Or.inl ⟨by rfl, ?_⟩) ?_ ?_
          rotate_left
          · intro w'
            go_simp
            with_reducible rfl
          rotate_left
          · simp only [Act.put, List.setIfInBounds_toArray, List.set_cons_zero, List.set_cons_succ, i64_w, i32_w]
            rfl
          refine pure_ (i := 8) (N := some 20) (v := ?_) (a' := ?_) #[true, true, true, true, true, true, true, true, true, false, false] rfl rfl (any_of HT_.out (by kernel_rfl)) (fun _ _ _ h => h) (Or.inl ⟨by rfl, ?_⟩) ?_ ?_
          rotate_left
          · intro w'
            go_simp
            with_reducible rfl
          rotate_left
          · simp only [Act.put, List.setIfInBounds_toArray, List.set_cons_zero, List.set_cons_succ, i64_w, i32_w]
            rfl
          refine pure_ (i := 9) (N := some 21) (v := ?_) (a' := ?_) #[true, true, true, true, true, true, true, true, true, true, false] rfl rfl (any_of HT_.out (by kernel_rfl)) (fun _ _ _ h => h) (Or.inl ⟨by rfl, ?_⟩) ?_ ?_
          rotate_left
          · intro w'
            go_simp
            with_reducible rfl
          rotate_left
          · simp only [Act.put, List.setIfInBounds_toArray, List.set_cons_zero, List.set_cons_succ, i64_w, i32_w]
            rfl
          refine last_ (i := 10) (N := none) #[true, true, true, true, true, true, true, true, true, true, true] rfl rfl (one_of HT_.out (by kernel_rfl)) (by decide) (fun K hK => ?_)
          have hs11 : w10.cell? ⟨gb127, 0, none⟩ = some (.int .u32 x128000_1) := (blk_cell BK127.out 0).trans rfl
          have hfs11 := blk_frozen BK127.out 0
          have hns11_1 := NB128_127.out
          have hms11_1 := NB127_128.out
          refine skip_ (w1 := ?_) (by rfl) rfl ?_ ?_
          rotate_left
          · go_simp
            rfl
          refine hK.out _ _ ?_
          clear hK K
          refine done_ (done_of HT_.out (by kernel_rfl)) ?_
          have hnb12 := NB127_128.out
          have hnc12 := NB128_127.out
          have hcz13_0 : w10.cell? ⟨gb127, 0, none⟩ = some (.int .u32 x128000_1) := (blk_cell BK127.out 0).trans rfl
          have hcz13_1 : w10.cell? ⟨gb127, 1, none⟩ = some (.int .u32 x128001_1) := (blk_cell BK127.out 1).trans rfl
          have hcz13_2 : w10.cell? ⟨gb127, 2, none⟩ = some (.int .u32 x128002_1) := (blk_cell BK127.out 2).trans rfl
          have hcz13_3 : w10.cell? ⟨gb127, 3, none⟩ = some (.int .u32 x128003_1) := (blk_cell BK127.out 3).trans rfl
          have hfz13_0 := blk_frozen BK127.out 0
          have hfz13_1 := blk_frozen BK127.out 1
          have hfz13_2 := blk_frozen BK127.out 2
          have hfz13_3 := blk_frozen BK127.out 3
          try go_wp2_with (first | ((with_reducible refine gate_callee (f := 165) rfl ?_); refine goesL_ (some 27) rfl rfl Try.func165 (by kernel_rfl) rfl #[.int .u32 ((x128001_1 + (((Go.bits .xor .u32 x128000_1 ((rd l1 x5_1) % 4294967296)) * 16777619) % 4294967296)) % 4294967296), .int .i64 7] rfl (by (try simp only [List.map_toArray, List.map_cons, List.map_nil]); first | done | rfl | (simp only [List.length_drop, List.length_take]; rfl)) ?_; (with_reducible refine (spec_l03Rot.calls ((x128001_1 + (((Go.bits .xor .u32 x128000_1 ((rd l1 x5_1) % 4294967296)) * 16777619) % 4294967296)) % 4294967296) 7 t130 _ A7.out).mono ?_); rintro e w' ⟨rfl, ⟨nd, rfl⟩⟩; refine ⟨_, rfl, ?_⟩) | ((with_reducible refine gate_callee (f := 165) rfl ?_); refine goesL_ (some 34) rfl rfl Try.func165 (by kernel_rfl) rfl #[.int .u32 (Go.bits .xor .u32 x128002_1 t130), .int .i64 13] rfl (by (try simp only [List.map_toArray, List.map_cons, List.map_nil]); first | done | rfl | (simp only [List.length_drop, List.length_take]; rfl)) ?_; (with_reducible refine (spec_l03Rot.calls (Go.bits .xor .u32 x128002_1 t130) 13 t131 _ A8.out).mono ?_); rintro e w' ⟨rfl, ⟨nd, rfl⟩⟩; refine ⟨_, rfl, ?_⟩) | ((with_reducible refine gate_callee (f := 165) rfl ?_); refine goesL_ (some 41) rfl rfl Try.func165 (by kernel_rfl) rfl #[.int .u32 ((x128003_1 + t131) % 4294967296), .int .i64 17] rfl (by (try simp only [List.map_toArray, List.map_cons, List.map_nil]); first | done | rfl | (simp only [List.length_drop, List.length_take]; rfl)) ?_; (with_reducible refine (spec_l03Rot.calls ((x128003_1 + t131) % 4294967296) 17 t132 _ A9.out).mono ?_); rintro e w' ⟨rfl, ⟨nd, rfl⟩⟩; refine ⟨_, rfl, ?_⟩))
          go_roundg k1
          case measure => have := HK1.out; omega
          case rel => exact ⟨(wrap64 (x5_1 + 1)), (Go.bits .xor .u32 (((Go.bits .xor .u32 x128000_1 ((rd l1 x5_1) % 4294967296)) * 16777619) % 4294967296) t132), (t130), (t131), (t132), (by first | rfl | (simp; done) | (simp [*]; done)), H', ⟨by have := HK1.out; omega⟩, ⟨by (with_reducible repeat (first | refine blk_drewN ?_ _ | refine blk_drew ?_ | refine blk_alloc ?_ _)); refine blk_put (cs := #[.int .u32 (((Go.bits .xor .u32 x128000_1 ((rd l1 x5_1) % 4294967296)) * 16777619) % 4294967296), .int .u32 t130, .int .u32 t131, .int .u32 t132]) ?_ 0 _ rfl; (with_reducible repeat (first | refine blk_drewN ?_ _ | refine blk_drew ?_ | refine blk_alloc ?_ _)); refine blk_put (cs := #[.int .u32 (((Go.bits .xor .u32 x128000_1 ((rd l1 x5_1) % 4294967296)) * 16777619) % 4294967296), .int .u32 t130, .int .u32 t131, .int .u32 x128003_1]) ?_ 3 _ rfl; (with_reducible repeat (first | refine blk_drewN ?_ _ | refine blk_drew ?_ | refine blk_alloc ?_ _)); refine blk_put (cs := #[.int .u32 (((Go.bits .xor .u32 x128000_1 ((rd l1 x5_1) % 4294967296)) * 16777619) % 4294967296), .int .u32 t130, .int .u32 x128002_1, .int .u32 x128003_1]) ?_ 2 _ rfl; (with_reducible repeat (first | refine blk_drewN ?_ _ | refine blk_drew ?_ | refine blk_alloc ?_ _)); refine blk_put (cs := #[.int .u32 (((Go.bits .xor .u32 x128000_1 ((rd l1 x5_1) % 4294967296)) * 16777619) % 4294967296), .int .u32 x128001_1, .int .u32 x128002_1, .int .u32 x128003_1]) ?_ 1 _ rfl; (with_reducible repeat (first | refine blk_drewN ?_ _ | refine blk_drew ?_ | refine blk_alloc ?_ _)); refine blk_put (cs := #[.int .u32 x128000_1, .int .u32 x128001_1, .int .u32 x128002_1, .int .u32 x128003_1]) ?_ 0 _ rfl; (with_reducible repeat (first | refine blk_drewN ?_ _ | refine blk_drew ?_ | refine blk_alloc ?_ _)); exact BK127.out⟩, ⟨by (with_reducible repeat (first | refine blk_drewN ?_ _ | refine blk_drew ?_ | refine blk_alloc ?_ _)); refine blk_far ?_ NB128_127.out _; (with_reducible repeat (first | refine blk_drewN ?_ _ | refine blk_drew ?_ | refine blk_alloc ?_ _)); refine blk_far ?_ NB128_127.out _; (with_reducible repeat (first | refine blk_drewN ?_ _ | refine blk_drew ?_ | refine blk_alloc ?_ _)); refine blk_far ?_ NB128_127.out _; (with_reducible repeat (first | refine blk_drewN ?_ _ | refine blk_drew ?_ | refine blk_alloc ?_ _)); refine blk_far ?_ NB128_127.out _; (with_reducible repeat (first | refine blk_drewN ?_ _ | refine blk_drew ?_ | refine blk_alloc ?_ _)); refine blk_far ?_ NB128_127.out _; (with_reducible repeat (first | refine blk_drewN ?_ _ | refine blk_drew ?_ | refine blk_alloc ?_ _)); exact BK128.out⟩, ⟨by repeat (first | (with_reducible first | exact HB.out | apply below_alloc | apply pw_below_drewN | apply below_drew1 | refine below_set ?_ GE127.out | refine below_set ?_ GE128.out) | exact HB.out)⟩⟩
        · rw [if_neg c6] at H
          exact absurd H (by simp)
      · rw [if_neg c5] at H
        have c5b0 : decide (x5_1 < (l1.length : Int)) = false := decide_eq_false c5
        clear c5
        simp only [Option.some.injEq, Prod.mk.injEq] at H
        obtain ⟨rfl, rfl, rfl, rfl⟩ := H
        have hnb14 := NB127_128.out
        have hnc14 := NB128_127.out
        have hcz15_0 : wr.cell? ⟨gb127, 0, none⟩ = some (.int .u32 x128000_1) := (blk_cell BK127.out 0).trans rfl
        have hcz15_1 : wr.cell? ⟨gb127, 1, none⟩ = some (.int .u32 x128001_1) := (blk_cell BK127.out 1).trans rfl
        have hcz15_2 : wr.cell? ⟨gb127, 2, none⟩ = some (.int .u32 x128002_1) := (blk_cell BK127.out 2).trans rfl
        have hcz15_3 : wr.cell? ⟨gb127, 3, none⟩ = some (.int .u32 x128003_1) := (blk_cell BK127.out 3).trans rfl
        have hfz15_0 := blk_frozen BK127.out 0
        have hfz15_1 := blk_frozen BK127.out 1
        have hfz15_2 := blk_frozen BK127.out 2
        have hfz15_3 := blk_frozen BK127.out 3
        have hcz16_0 : wr.cell? ⟨gb128, 0, none⟩ = some (.int .u32 0) := (blk_cell BK128.out 0).trans rfl
        have hcz16_1 : wr.cell? ⟨gb128, 1, none⟩ = some (.int .u32 0) := (blk_cell BK128.out 1).trans rfl
        have hcz16_2 : wr.cell? ⟨gb128, 2, none⟩ = some (.int .u32 0) := (blk_cell BK128.out 2).trans rfl
        have hcz16_3 : wr.cell? ⟨gb128, 3, none⟩ = some (.int .u32 0) := (blk_cell BK128.out 3).trans rfl
        have hfz16_0 := blk_frozen BK128.out 0
        have hfz16_1 := blk_frozen BK128.out 1
        have hfz16_2 := blk_frozen BK128.out 2
        have hfz16_3 := blk_frozen BK128.out 3
        go_wp2
        refine bodyPost_ret (results_cell_row rfl _ _ gb128 153 #[.int .u32 x128000_1, .int .u32 x128001_1, .int .u32 x128002_1, .int .u32 x128003_1] (0, 0) _ rfl (by (with_reducible repeat (first | refine blk_drewN ?_ _ | refine blk_drew ?_ | refine blk_alloc ?_ _)); refine blk_put (cs := #[.int .u32 x128000_1, .int .u32 x128001_1, .int .u32 x128002_1, .int .u32 0]) ?_ 3 _ rfl; (with_reducible repeat (first | refine blk_drewN ?_ _ | refine blk_drew ?_ | refine blk_alloc ?_ _)); refine blk_put (cs := #[.int .u32 x128000_1, .int .u32 x128001_1, .int .u32 0, .int .u32 0]) ?_ 2 _ rfl; (with_reducible repeat (first | refine blk_drewN ?_ _ | refine blk_drew ?_ | refine blk_alloc ?_ _)); refine blk_put (cs := #[.int .u32 x128000_1, .int .u32 0, .int .u32 0, .int .u32 0]) ?_ 1 _ rfl; (with_reducible repeat (first | refine blk_drewN ?_ _ | refine blk_drew ?_ | refine blk_alloc ?_ _)); refine blk_put (cs := #[.int .u32 0, .int .u32 0, .int .u32 0, .int .u32 0]) ?_ 0 _ rfl; (with_reducible repeat (first | refine blk_drewN ?_ _ | refine blk_drew ?_ | refine blk_alloc ?_ _)); exact BK128.out) Try.underlying153 rfl (by kernel_rfl)) rfl ?_
        exact ⟨by first | rfl | (simp [errW_none, errW_some] <;> rfl) | (simp [*, errW_none, errW_some] <;> rfl), by repeat (first | (with_reducible first | exact HB.out | apply below_alloc | apply pw_below_drewN | apply below_drew1 | refine below_set ?_ GE127.out | refine below_set ?_ GE128.out) | exact HB.out)⟩

/-! ### spec_l03Digest: function 66 -/
def spec_l03Digest.l0 : Nat → Int → Int → Int → Int → Int → Option (List Int)
  | 0, _, _, _, _, _ => none
  | k + 1, x6, x134000, x134001, x134002, x134003 => if x6 < 16 then ((spec_l03Stir.f k x134000 x134001 x134002 x134003 (([165] : List Int))).bind fun bt159 => (spec_l03Digest.l0 k (wrap64 (x6 + 1)) bt159.1 bt159.2.1 bt159.2.2.1 bt159.2.2.2)) else ((spec_l01Digits.f k (wrap64 (x134000)) 4).bind fun t163 => ((spec_l01Digits.f k (wrap64 (x134001)) 4).bind fun t166 => (if t163.length + t166.length < 140737488355328 then ((some (t163 ++ t166 : List Int)).bind fun y169 => ((spec_l01Digits.f k (wrap64 (x134002)) 4).bind fun t172 => (if y169.length + t172.length < 140737488355328 then ((some (y169 ++ t172 : List Int)).bind fun y175 => ((spec_l01Digits.f k (wrap64 (x134003)) 4).bind fun t178 => (if y175.length + t178.length < 140737488355328 then (some (y175 ++ t178)) else (none)))) else (none)))) else (none))))
def spec_l03Digest.f (k : Nat) (l0 : List Int) (l1 : List Int) : Option (List Int) := (spec_l01Digits.f k (l0.length : Int) 4).bind fun t134 => ((spec_l03Stir.f k 1779033703 3144134277 1013904242 2773480762 t134).bind fun bt137 => ((spec_l03Stir.f k bt137.1 bt137.2.1 bt137.2.2.1 bt137.2.2.2 l0).bind fun bt141 => ((spec_l03Stir.f k bt141.1 bt141.2.1 bt141.2.2.1 bt141.2.2.2 l1).bind fun bt145 => ((spec_l01Digits.f k (l1.length : Int) 4).bind fun t149 => ((spec_l03Stir.f k bt145.1 bt145.2.1 bt145.2.2.1 bt145.2.2.2 t149).bind fun bt152 => (spec_l03Digest.l0 k 0 bt152.1 bt152.2.1 bt152.2.2.1 bt152.2.2.2))))))
theorem spec_l03Digest.mono_l : ∀ k, (∀ y0 y1 y2 y3 y4, LeO (spec_l03Digest.l0 k y0 y1 y2 y3 y4) (spec_l03Digest.l0 (k + 1) y0 y1 y2 y3 y4))
  | 0 => fun _ _ _ _ _ r h => by simp [spec_l03Digest.l0] at h
  | k + 1 => by
    have ih0 := spec_l03Digest.mono_l k
    · intro y0 y1 y2 y3 y4
      unfold spec_l03Digest.l0
      repeat' first
      | (with_reducible exact ih0 _ _ _ _ _)
      | (with_reducible exact spec_l01Digits.mono _ _ _)
      | (with_reducible exact spec_l03Stir.mono _ _ _ _ _ _)
      | (with_reducible exact LeO.refl _)
      | (with_reducible exact LeO.none _)
      | (with_reducible refine LeO.ite ?_ ?_)
      | (with_reducible refine LeO.bind ?_ (fun _ => ?_))
      | exact ih0 _ _ _ _ _
      | exact spec_l01Digits.mono _ _ _
      | exact spec_l03Stir.mono _ _ _ _ _ _
      | exact LeO.none _
      | refine LeO.ite ?_ ?_
      | refine LeO.bind ?_ (fun _ => ?_)
theorem spec_l03Digest.mono : ∀ a0 a1 k, LeO (spec_l03Digest.f k a0 a1) (spec_l03Digest.f (k + 1) a0 a1) := by
  intro a0 a1 k
  have ih0 := spec_l03Digest.mono_l k
  unfold spec_l03Digest.f
  repeat' first
      | (with_reducible exact ih0 _ _ _ _ _)
      | (with_reducible exact spec_l01Digits.mono _ _ _)
      | (with_reducible exact spec_l03Stir.mono _ _ _ _ _ _)
      | (with_reducible exact LeO.refl _)
      | (with_reducible exact LeO.none _)
      | (with_reducible refine LeO.ite ?_ ?_)
      | (with_reducible refine LeO.bind ?_ (fun _ => ?_))
      | exact ih0 _ _ _ _ _
      | exact spec_l01Digits.mono _ _ _
      | exact spec_l03Stir.mono _ _ _ _ _ _
      | exact LeO.none _
      | refine LeO.ite ?_ ?_
      | refine LeO.bind ?_ (fun _ => ?_)
set_option maxHeartbeats 8000000 in
set_option maxRecDepth 100000 in
theorem spec_l03Digest.calls (k : Nat) (A0 : Option Addr) (c0 : Nat) (l0 : List Int) (A1 : Option Addr) (c1 : Nat) (l1 : List Int) (r : List Int) (w : World) (hr0 : Kd.C (Kd.int .u8) w A0 l0.length l0) (hc0 : l0.length ≤ c0) (hr1 : Kd.C (Kd.int .u8) w A1 l1.length l1) (hc1 : l1.length ≤ c1) (h : spec_l03Digest.f k l0 l1 = some r) :
    Calls Try.prog 66 #[.slice A0 l0.length c0, .slice A1 l1.length c1] w fun e w' => ∃ v0_ : Value, e = .returned (v0_) ∧ Kd.R (Kd.int .u8) 5 w' w.heap.size (fun _ => True) v0_ r ∧ Below w.heap.size w w' := by
  have hu153 := Try.underlying153
  have HR0 := Aside0.mk hr0
  have HC0 := Aside0.mk hc0
  clear hr0 hc0
  have HR1 := Aside0.mk hr1
  have HC1 := Aside0.mk hc1
  clear hr1 hc1
  have HB := Aside0.mk (Below.refl w.heap.size w)
  have H : ((spec_l01Digits.f k (l0.length : Int) 4).bind fun t134 => ((spec_l03Stir.f k 1779033703 3144134277 1013904242 2773480762 t134).bind fun bt137 => ((spec_l03Stir.f k bt137.1 bt137.2.1 bt137.2.2.1 bt137.2.2.2 l0).bind fun bt141 => ((spec_l03Stir.f k bt141.1 bt141.2.1 bt141.2.2.1 bt141.2.2.2 l1).bind fun bt145 => ((spec_l01Digits.f k (l1.length : Int) 4).bind fun t149 => ((spec_l03Stir.f k bt145.1 bt145.2.1 bt145.2.2.1 bt145.2.2.2 t149).bind fun bt152 => (spec_l03Digest.l0 k 0 bt152.1 bt152.2.1 bt152.2.2.1 bt152.2.2.2))))))) = some r := h
  clear h
  replace H := Option.bind_eq_some_iff.mp H
  obtain ⟨t134, A30, H⟩ := H
  replace H : ((spec_l03Stir.f k 1779033703 3144134277 1013904242 2773480762 t134).bind fun bt137 => ((spec_l03Stir.f k bt137.1 bt137.2.1 bt137.2.2.1 bt137.2.2.2 l0).bind fun bt141 => ((spec_l03Stir.f k bt141.1 bt141.2.1 bt141.2.2.1 bt141.2.2.2 l1).bind fun bt145 => ((spec_l01Digits.f k (l1.length : Int) 4).bind fun t149 => ((spec_l03Stir.f k bt145.1 bt145.2.1 bt145.2.2.1 bt145.2.2.2 t149).bind fun bt152 => (spec_l03Digest.l0 k 0 bt152.1 bt152.2.1 bt152.2.2.1 bt152.2.2.2)))))) = some r := H
  have A3 := Aside0.mk A30
  clear A30
  replace H := Option.bind_eq_some_iff.mp H
  obtain ⟨⟨t137, t138, t139, t140⟩, A40, H⟩ := H
  replace H : ((spec_l03Stir.f k t137 t138 t139 t140 l0).bind fun bt141 => ((spec_l03Stir.f k bt141.1 bt141.2.1 bt141.2.2.1 bt141.2.2.2 l1).bind fun bt145 => ((spec_l01Digits.f k (l1.length : Int) 4).bind fun t149 => ((spec_l03Stir.f k bt145.1 bt145.2.1 bt145.2.2.1 bt145.2.2.2 t149).bind fun bt152 => (spec_l03Digest.l0 k 0 bt152.1 bt152.2.1 bt152.2.2.1 bt152.2.2.2))))) = some r := H
  have A4 := Aside0.mk A40
  clear A40
  replace H := Option.bind_eq_some_iff.mp H
  obtain ⟨⟨t141, t142, t143, t144⟩, A50, H⟩ := H
  replace H : ((spec_l03Stir.f k t141 t142 t143 t144 l1).bind fun bt145 => ((spec_l01Digits.f k (l1.length : Int) 4).bind fun t149 => ((spec_l03Stir.f k bt145.1 bt145.2.1 bt145.2.2.1 bt145.2.2.2 t149).bind fun bt152 => (spec_l03Digest.l0 k 0 bt152.1 bt152.2.1 bt152.2.2.1 bt152.2.2.2)))) = some r := H
  have A5 := Aside0.mk A50
  clear A50
  replace H := Option.bind_eq_some_iff.mp H
  obtain ⟨⟨t145, t146, t147, t148⟩, A60, H⟩ := H
  replace H : ((spec_l01Digits.f k (l1.length : Int) 4).bind fun t149 => ((spec_l03Stir.f k t145 t146 t147 t148 t149).bind fun bt152 => (spec_l03Digest.l0 k 0 bt152.1 bt152.2.1 bt152.2.2.1 bt152.2.2.2))) = some r := H
  have A6 := Aside0.mk A60
  clear A60
  replace H := Option.bind_eq_some_iff.mp H
  obtain ⟨t149, A70, H⟩ := H
  replace H : ((spec_l03Stir.f k t145 t146 t147 t148 t149).bind fun bt152 => (spec_l03Digest.l0 k 0 bt152.1 bt152.2.1 bt152.2.2.1 bt152.2.2.2)) = some r := H
  have A7 := Aside0.mk A70
  clear A70
  replace H := Option.bind_eq_some_iff.mp H
  obtain ⟨⟨t152, t153, t154, t155⟩, A80, H⟩ := H
  replace H : (spec_l03Digest.l0 k 0 t152 t153 t154 t155) = some r := H
  have A8 := Aside0.mk A80
  clear A80
  have H' := Aside0.mk H
  clear H
  go_enter Try.func66, Try.ntmps66
  try go_wp2_with (first | ((with_reducible refine gate_dst (N := 5) rfl ?_); refine box_event ?hg (N := 5) ?hd (cs := #[.int .u32 0, .int .u32 0, .int .u32 0, .int .u32 0]) (t := 153) ?hr ?_; (case hd => rfl); (case hg => rfl); (case hr => first | (go_simp; done) | (go_simp; rfl)); intro gb133 hg w9 hbox hb; have n0_ := Aside0.mk (below_step (by repeat (first | (with_reducible first | exact HB.out | apply below_alloc | apply pw_below_drewN | apply below_drew1) | exact HB.out)) hb); have n1_ := Aside0.mk (hbox); have n2_ := Aside0.mk ((by rw [hg]; exact (below_size (by repeat (first | (with_reducible first | exact HB.out | apply below_alloc | apply pw_below_drewN | apply below_drew1) | exact HB.out))) : w.heap.size ≤ gb133)); have n3_ := Aside0.mk ((by rw [hg]; exact (below_size (by repeat (first | (with_reducible first | exact HB.out | apply below_alloc | apply pw_below_drewN | apply below_drew1) | exact HB.out))) : w.heap.size ≤ gb133)); clear HB; have HB := n0_; have BK133 := n1_; have GW133 := n2_; have GE133 := n3_; clear n0_ n1_ n2_ n3_; clear hb hbox hg; have hcz10_0 : w9.cell? ⟨gb133, 0, none⟩ = some (.int .u32 0) := (blk_cell BK133.out 0).trans rfl; have hcz10_1 : w9.cell? ⟨gb133, 1, none⟩ = some (.int .u32 0) := (blk_cell BK133.out 1).trans rfl; have hcz10_2 : w9.cell? ⟨gb133, 2, none⟩ = some (.int .u32 0) := (blk_cell BK133.out 2).trans rfl; have hcz10_3 : w9.cell? ⟨gb133, 3, none⟩ = some (.int .u32 0) := (blk_cell BK133.out 3).trans rfl; have hfz10_0 := blk_frozen BK133.out 0; have hfz10_1 := blk_frozen BK133.out 1; have hfz10_2 := blk_frozen BK133.out 2; have hfz10_3 := blk_frozen BK133.out 3))
  have n0_ : Aside0 (((((w9.setCell ⟨gb133, 0, none⟩ (.int .u32 1779033703)).setCell ⟨gb133, 1, none⟩ (.int .u32 3144134277)).setCell ⟨gb133, 2, none⟩ (.int .u32 1013904242)).setCell ⟨gb133, 3, none⟩ (.int .u32 2773480762)).heap[gb133]? = some (.cells #[.int .u32 1779033703, .int .u32 3144134277, .int .u32 1013904242, .int .u32 2773480762] 153 (0, 0))) := ⟨by (with_reducible repeat (first | refine blk_drewN ?_ _ | refine blk_drew ?_ | refine blk_alloc ?_ _)); refine blk_put (cs := #[.int .u32 1779033703, .int .u32 3144134277, .int .u32 1013904242, .int .u32 0]) ?_ 3 _ rfl; (with_reducible repeat (first | refine blk_drewN ?_ _ | refine blk_drew ?_ | refine blk_alloc ?_ _)); refine blk_put (cs := #[.int .u32 1779033703, .int .u32 3144134277, .int .u32 0, .int .u32 0]) ?_ 2 _ rfl; (with_reducible repeat (first | refine blk_drewN ?_ _ | refine blk_drew ?_ | refine blk_alloc ?_ _)); refine blk_put (cs := #[.int .u32 1779033703, .int .u32 0, .int .u32 0, .int .u32 0]) ?_ 1 _ rfl; (with_reducible repeat (first | refine blk_drewN ?_ _ | refine blk_drew ?_ | refine blk_alloc ?_ _)); refine blk_put (cs := #[.int .u32 0, .int .u32 0, .int .u32 0, .int .u32 0]) ?_ 0 _ rfl; (with_reducible repeat (first | refine blk_drewN ?_ _ | refine blk_drew ?_ | refine blk_alloc ?_ _)); exact BK133.out⟩
  have n1_ : Aside0 (Below w.heap.size w ((((w9.setCell ⟨gb133, 0, none⟩ (.int .u32 1779033703)).setCell ⟨gb133, 1, none⟩ (.int .u32 3144134277)).setCell ⟨gb133, 2, none⟩ (.int .u32 1013904242)).setCell ⟨gb133, 3, none⟩ (.int .u32 2773480762))) := ⟨by repeat (first | (with_reducible first | exact HB.out | apply below_alloc | apply pw_below_drewN | apply below_drew1 | refine below_set ?_ GE133.out) | exact HB.out)⟩
  (try clear BK133)
  (try clear HB)
  generalize ((((w9.setCell ⟨gb133, 0, none⟩ (.int .u32 1779033703)).setCell ⟨gb133, 1, none⟩ (.int .u32 3144134277)).setCell ⟨gb133, 2, none⟩ (.int .u32 1013904242)).setCell ⟨gb133, 3, none⟩ (.int .u32 2773480762)) = w11 at n0_ n1_ ⊢
  have BK133 := n0_
  have HB := n1_
  clear n0_ n1_
  have n0_ := Aside0.mk (blk_drew BK133.out)
  have n1_ := Aside0.mk (below_drew1 HB.out)
  clear BK133
  clear HB
  have BK133 := n0_
  have HB := n1_
  clear n0_ n1_
  refine start_ (n := 6) (S := fun w' => w'.cell? ⟨gb133, 0, none⟩ = some (.int .u32 1779033703) ∧ w'.cell? ⟨gb133, 1, none⟩ = some (.int .u32 3144134277) ∧ w'.cell? ⟨gb133, 2, none⟩ = some (.int .u32 1013904242) ∧ w'.cell? ⟨gb133, 3, none⟩ = some (.int .u32 2773480762)) (ds := [5]) #[false, false, false, false, false, false] (by kernel_rfl) rfl rfl ⟨(blk_cell BK133.out 0).trans rfl, (blk_cell BK133.out 1).trans rfl, (blk_cell BK133.out 2).trans rfl, (blk_cell BK133.out 3).trans rfl⟩ (fun hHeld => ?_)
  generalize w11.drew = w12 at BK133 HB hHeld ⊢
  refine pure_ (i := 1) (N := some 10) (v := ?_) (a' := ?_) #[false, true, false, false, false, false] rfl rfl (by kernel_rfl) (fun _ _ _ h => h) (Or.inl ⟨by rfl, ?_⟩) ?_ ?_
  rotate_left
  · intro w'
    go_simp
    with_reducible rfl
  rotate_left
  · simp only [Act.put, List.setIfInBounds_toArray, List.set_cons_zero, List.set_cons_succ, i64_w, i32_w]
    rfl
  refine pure_ (i := 2) (N := some 11) (v := ?_) (a' := ?_) #[false, true, true, false, false, false] rfl rfl (by kernel_rfl) (fun _ _ _ h => h) (Or.inl ⟨by rfl, ?_⟩) ?_ ?_
  rotate_left
  · intro w'
    go_simp
    with_reducible rfl
  rotate_left
  · simp only [Act.put, List.setIfInBounds_toArray, List.set_cons_zero, List.set_cons_succ, i64_w, i32_w]
    rfl
  refine take_ (i := 0) (N := some 9) (v := ?_) (a' := ?_) #[true, true, true, false, false, false] rfl rfl (by kernel_rfl) (fun _ _ _ h => h) (Or.inl ⟨by rfl, ?_⟩) hHeld ?_ ?_
  rotate_left
  · rintro w' ⟨s0, s1, s2, s3⟩
    go_simp
    with_reducible rfl
  rotate_left
  · simp only [Act.put, List.setIfInBounds_toArray, List.set_cons_zero, List.set_cons_succ, i64_w, i32_w]
    rfl
  refine one_ (i := 3) (N := some 12) #[true, true, true, true, false, false] rfl rfl (by kernel_rfl) (by decide) (fun K hK => ?_)
  refine goes_ Try.func67 (by kernel_rfl) rfl #[.int .i64 (l0.length : Int), .int .i64 4] (by rfl) rfl rfl (by (try simp only [List.map_toArray, List.map_cons, List.map_nil]); first | done | rfl | (simp only [List.length_drop, List.length_take]; rfl)) ?_
  with_reducible refine (spec_l01Digits.calls k (l0.length : Int) 4 t134 _ A3.out).mono ?_
  rintro e w13 ⟨v135, rfl, ho0, hb⟩
  refine ⟨_, rfl, ?_⟩
  have n0_ := Aside0.mk (Kd.R_lower ho0 (below_size (by repeat (first | (with_reducible first | exact HB.out | apply below_alloc | apply pw_below_drewN | apply below_drew1 | refine below_set ?_ GE133.out) | exact HB.out))))
  have n1_ := Aside0.mk (blk_below (g := gb133) (o := .cells #[.int .u32 1779033703, .int .u32 3144134277, .int .u32 1013904242, .int .u32 2773480762] 153 (0, 0)) (by (with_reducible repeat (first | refine blk_drewN ?_ _ | refine blk_drew ?_ | refine blk_alloc ?_ _)); exact BK133.out) hb)
  have n2_ := Aside0.mk (below_step (by repeat (first | (with_reducible first | exact HB.out | apply below_alloc | apply pw_below_drewN | apply below_drew1 | refine below_set ?_ GE133.out) | exact HB.out)) hb)
  clear BK133
  clear HB
  have HO136 := n0_
  have BK133 := n1_
  have HB := n2_
  clear n0_ n1_ n2_
  (try clear hb)
  (try clear hb2)
  (try clear hk)
  (try clear hi)
  (try clear ho0)
  obtain ⟨Ao14, co14, eo14⟩ := Kd.R_slice HO136.out
  (first | subst eo14 | (injection eo14 with f1_ f2_ f3_; have f4_ := f1_.symm; have f5_ := f3_.symm; clear f1_ f2_ f3_; subst f4_; subst f5_))
  refine hK.out _ _ ⟨(blk_cell BK133.out 0).trans rfl, (blk_cell BK133.out 1).trans rfl, (blk_cell BK133.out 2).trans rfl, (blk_cell BK133.out 3).trans rfl⟩ (fun hHeld => ?_)
  clear hK K
  refine norm_ (a' := ?_) ?_ ?_
  rotate_left
  · show Act.put _ (some 12) _ = _
    simp only [Act.put, List.setIfInBounds_toArray, List.set_cons_zero, List.set_cons_succ, i64_w, i32_w]
    rfl
  refine one_ (i := 4) (N := some 13) #[true, true, true, true, true, false] rfl rfl (by kernel_rfl) (by decide) (fun K hK => ?_)
  refine goes_ Try.func136 (by kernel_rfl) rfl #[.agg #[.int .u32 1779033703, .int .u32 3144134277, .int .u32 1013904242, .int .u32 2773480762], .slice Ao14 t134.length co14] (by rfl) rfl rfl (by (try simp only [List.map_toArray, List.map_cons, List.map_nil]); first | done | rfl | (simp only [List.length_drop, List.length_take]; rfl)) ?_
  with_reducible refine (spec_l03Stir.calls k 1779033703 3144134277 1013904242 2773480762 _ _ t134 t137 t138 t139 t140 _ ?side1 ?side2 A4.out).mono ?_
  (case side1 => repeat (first | exact (Kd.R_reads' HO136.out).2.2 | (with_reducible refine Kd.C_alloc ?_ _) | (with_reducible refine Kd.C_drewN ?_ _) | (with_reducible refine Kd.C_drew ?_)))
  (case side2 => exact (Kd.R_reads' HO136.out).2.1)
  rintro e w15 ⟨rfl, hb⟩
  refine ⟨_, rfl, ?_⟩
  have n0_ := Aside0.mk (Kd.R_below (by (with_reducible repeat (first | apply Kd.R_alloc | apply Kd.R_drewN | apply Kd.R_drew)); exact HO136.out) hb)
  have n1_ := Aside0.mk (blk_below (g := gb133) (o := .cells #[.int .u32 1779033703, .int .u32 3144134277, .int .u32 1013904242, .int .u32 2773480762] 153 (0, 0)) (by (with_reducible repeat (first | refine blk_drewN ?_ _ | refine blk_drew ?_ | refine blk_alloc ?_ _)); exact BK133.out) hb)
  have n2_ := Aside0.mk (below_step (by repeat (first | (with_reducible first | exact HB.out | apply below_alloc | apply pw_below_drewN | apply below_drew1 | refine below_set ?_ GE133.out) | exact HB.out)) hb)
  clear HO136
  clear BK133
  clear HB
  have HO136 := n0_
  have BK133 := n1_
  have HB := n2_
  clear n0_ n1_ n2_
  (try clear hb)
  (try clear hb2)
  (try clear hk)
  (try clear hi)
  refine hK.out _ _ ⟨(blk_cell BK133.out 0).trans rfl, (blk_cell BK133.out 1).trans rfl, (blk_cell BK133.out 2).trans rfl, (blk_cell BK133.out 3).trans rfl⟩ (fun hHeld => ?_)
  clear hK K
  refine norm_ (a' := ?_) ?_ ?_
  rotate_left
  · show Act.put _ (some 13) _ = _
    simp only [Act.put, List.setIfInBounds_toArray, List.set_cons_zero, List.set_cons_succ, i64_w, i32_w]
    rfl
  refine last_ (i := 5) (N := none) #[true, true, true, true, true, true] rfl rfl (by kernel_rfl) (by decide) (fun K hK => ?_)
  have hs16 : w15.cell? ⟨gb133, 0, none⟩ = some (.int .u32 1779033703) := (blk_cell BK133.out 0).trans rfl
  have hfs16 := blk_frozen BK133.out 0
  have hs17 : w15.cell? ⟨gb133, 1, none⟩ = some (.int .u32 3144134277) := (blk_cell BK133.out 1).trans rfl
  have hfs17 := blk_frozen BK133.out 1
  have hs18 : w15.cell? ⟨gb133, 2, none⟩ = some (.int .u32 1013904242) := (blk_cell BK133.out 2).trans rfl
  have hfs18 := blk_frozen BK133.out 2
  have hs19 : w15.cell? ⟨gb133, 3, none⟩ = some (.int .u32 2773480762) := (blk_cell BK133.out 3).trans rfl
  have hfs19 := blk_frozen BK133.out 3
  refine skip_ (w1 := ?_) (by rfl) rfl ?_ ?_
  rotate_left
  · go_simp
    rfl
  refine hK.out _ _ ?_
  clear hK K
  refine done_ (by kernel_rfl) ?_
  have hcz20_0 : w15.cell? ⟨gb133, 0, none⟩ = some (.int .u32 1779033703) := (blk_cell BK133.out 0).trans rfl
  have hcz20_1 : w15.cell? ⟨gb133, 1, none⟩ = some (.int .u32 3144134277) := (blk_cell BK133.out 1).trans rfl
  have hcz20_2 : w15.cell? ⟨gb133, 2, none⟩ = some (.int .u32 1013904242) := (blk_cell BK133.out 2).trans rfl
  have hcz20_3 : w15.cell? ⟨gb133, 3, none⟩ = some (.int .u32 2773480762) := (blk_cell BK133.out 3).trans rfl
  have hfz20_0 := blk_frozen BK133.out 0
  have hfz20_1 := blk_frozen BK133.out 1
  have hfz20_2 := blk_frozen BK133.out 2
  have hfz20_3 := blk_frozen BK133.out 3
  try go_wp2_with (first | ((with_reducible refine gate_callee (f := 136) rfl ?_); refine goesL_ (some 16) rfl rfl Try.func136 (by kernel_rfl) rfl #[.agg #[.int .u32 t137, .int .u32 t138, .int .u32 t139, .int .u32 t140], .slice A0 l0.length c0] rfl (by (try simp only [List.map_toArray, List.map_cons, List.map_nil]); first | done | rfl | (simp only [List.length_drop, List.length_take]; rfl)) ?_; (with_reducible refine (spec_l03Stir.calls k t137 t138 t139 t140 _ _ l0 t141 t142 t143 t144 _ ?side1 ?side2 A5.out).mono ?_); (case side1 => exact Kd.C_below HR0.out (by repeat (first | (with_reducible first | exact HB.out | apply below_alloc | apply pw_below_drewN | apply below_drew1 | refine below_set ?_ GE133.out) | exact HB.out))); (case side2 => exact HC0.out); rintro e w21 ⟨rfl, hb⟩; refine ⟨_, rfl, ?_⟩; have n0_ := Aside0.mk (Kd.R_below (by (with_reducible repeat (first | apply Kd.R_alloc | apply Kd.R_drewN | apply Kd.R_drew)); exact (Kd.R_mono (Kd.R_far (p := ⟨gb133, 3, none⟩) (Kd.R_far (p := ⟨gb133, 2, none⟩) (Kd.R_far (p := ⟨gb133, 1, none⟩) (Kd.R_far (p := ⟨gb133, 0, none⟩) (Kd.R_types HO136.out BK133.out (by decide)) (fun _ hk => hk.2) (.int .u32 t137)) (fun _ hk => hk.2) (.int .u32 t138)) (fun _ hk => hk.2) (.int .u32 t139)) (fun _ hk => hk.2) (.int .u32 t140)) (fun _ h_ => h_.1))) hb); have n1_ := Aside0.mk (blk_below (g := gb133) (o := .cells #[.int .u32 t137, .int .u32 t138, .int .u32 t139, .int .u32 t140] 153 (0, 0)) (by (with_reducible repeat (first | refine blk_drewN ?_ _ | refine blk_drew ?_ | refine blk_alloc ?_ _)); refine blk_put (cs := #[.int .u32 t137, .int .u32 t138, .int .u32 t139, .int .u32 2773480762]) ?_ 3 _ rfl; (with_reducible repeat (first | refine blk_drewN ?_ _ | refine blk_drew ?_ | refine blk_alloc ?_ _)); refine blk_put (cs := #[.int .u32 t137, .int .u32 t138, .int .u32 1013904242, .int .u32 2773480762]) ?_ 2 _ rfl; (with_reducible repeat (first | refine blk_drewN ?_ _ | refine blk_drew ?_ | refine blk_alloc ?_ _)); refine blk_put (cs := #[.int .u32 t137, .int .u32 3144134277, .int .u32 1013904242, .int .u32 2773480762]) ?_ 1 _ rfl; (with_reducible repeat (first | refine blk_drewN ?_ _ | refine blk_drew ?_ | refine blk_alloc ?_ _)); refine blk_put (cs := #[.int .u32 1779033703, .int .u32 3144134277, .int .u32 1013904242, .int .u32 2773480762]) ?_ 0 _ rfl; (with_reducible repeat (first | refine blk_drewN ?_ _ | refine blk_drew ?_ | refine blk_alloc ?_ _)); exact BK133.out) hb); have n2_ := Aside0.mk (below_step (by repeat (first | (with_reducible first | exact HB.out | apply below_alloc | apply pw_below_drewN | apply below_drew1 | refine below_set ?_ GE133.out) | exact HB.out)) hb); clear HO136; clear BK133; clear HB; have HO136 := n0_; have BK133 := n1_; have HB := n2_; clear n0_ n1_ n2_; (try clear hb); (try clear hb2); (try clear hk); (try clear hi); have hcz22_0 : w21.cell? ⟨gb133, 0, none⟩ = some (.int .u32 t137) := (blk_cell BK133.out 0).trans rfl; have hcz22_1 : w21.cell? ⟨gb133, 1, none⟩ = some (.int .u32 t138) := (blk_cell BK133.out 1).trans rfl; have hcz22_2 : w21.cell? ⟨gb133, 2, none⟩ = some (.int .u32 t139) := (blk_cell BK133.out 2).trans rfl; have hcz22_3 : w21.cell? ⟨gb133, 3, none⟩ = some (.int .u32 t140) := (blk_cell BK133.out 3).trans rfl; have hfz22_0 := blk_frozen BK133.out 0; have hfz22_1 := blk_frozen BK133.out 1; have hfz22_2 := blk_frozen BK133.out 2; have hfz22_3 := blk_frozen BK133.out 3) | ((with_reducible refine gate_callee (f := 136) rfl ?_); refine goesL_ (some 19) rfl rfl Try.func136 (by kernel_rfl) rfl #[.agg #[.int .u32 t141, .int .u32 t142, .int .u32 t143, .int .u32 t144], .slice A1 l1.length c1] rfl (by (try simp only [List.map_toArray, List.map_cons, List.map_nil]); first | done | rfl | (simp only [List.length_drop, List.length_take]; rfl)) ?_; (with_reducible refine (spec_l03Stir.calls k t141 t142 t143 t144 _ _ l1 t145 t146 t147 t148 _ ?side1 ?side2 A6.out).mono ?_); (case side1 => exact Kd.C_below HR1.out (by repeat (first | (with_reducible first | exact HB.out | apply below_alloc | apply pw_below_drewN | apply below_drew1 | refine below_set ?_ GE133.out) | exact HB.out))); (case side2 => exact HC1.out); rintro e w23 ⟨rfl, hb⟩; refine ⟨_, rfl, ?_⟩; have n0_ := Aside0.mk (Kd.R_below (by (with_reducible repeat (first | apply Kd.R_alloc | apply Kd.R_drewN | apply Kd.R_drew)); exact (Kd.R_mono (Kd.R_far (p := ⟨gb133, 3, none⟩) (Kd.R_far (p := ⟨gb133, 2, none⟩) (Kd.R_far (p := ⟨gb133, 1, none⟩) (Kd.R_far (p := ⟨gb133, 0, none⟩) (Kd.R_types HO136.out BK133.out (by decide)) (fun _ hk => hk.2) (.int .u32 t141)) (fun _ hk => hk.2) (.int .u32 t142)) (fun _ hk => hk.2) (.int .u32 t143)) (fun _ hk => hk.2) (.int .u32 t144)) (fun _ h_ => h_.1))) hb); have n1_ := Aside0.mk (blk_below (g := gb133) (o := .cells #[.int .u32 t141, .int .u32 t142, .int .u32 t143, .int .u32 t144] 153 (0, 0)) (by (with_reducible repeat (first | refine blk_drewN ?_ _ | refine blk_drew ?_ | refine blk_alloc ?_ _)); refine blk_put (cs := #[.int .u32 t141, .int .u32 t142, .int .u32 t143, .int .u32 t140]) ?_ 3 _ rfl; (with_reducible repeat (first | refine blk_drewN ?_ _ | refine blk_drew ?_ | refine blk_alloc ?_ _)); refine blk_put (cs := #[.int .u32 t141, .int .u32 t142, .int .u32 t139, .int .u32 t140]) ?_ 2 _ rfl; (with_reducible repeat (first | refine blk_drewN ?_ _ | refine blk_drew ?_ | refine blk_alloc ?_ _)); refine blk_put (cs := #[.int .u32 t141, .int .u32 t138, .int .u32 t139, .int .u32 t140]) ?_ 1 _ rfl; (with_reducible repeat (first | refine blk_drewN ?_ _ | refine blk_drew ?_ | refine blk_alloc ?_ _)); refine blk_put (cs := #[.int .u32 t137, .int .u32 t138, .int .u32 t139, .int .u32 t140]) ?_ 0 _ rfl; (with_reducible repeat (first | refine blk_drewN ?_ _ | refine blk_drew ?_ | refine blk_alloc ?_ _)); exact BK133.out) hb); have n2_ := Aside0.mk (below_step (by repeat (first | (with_reducible first | exact HB.out | apply below_alloc | apply pw_below_drewN | apply below_drew1 | refine below_set ?_ GE133.out) | exact HB.out)) hb); clear HO136; clear BK133; clear HB; have HO136 := n0_; have BK133 := n1_; have HB := n2_; clear n0_ n1_ n2_; (try clear hb); (try clear hb2); (try clear hk); (try clear hi); have hcz24_0 : w23.cell? ⟨gb133, 0, none⟩ = some (.int .u32 t141) := (blk_cell BK133.out 0).trans rfl; have hcz24_1 : w23.cell? ⟨gb133, 1, none⟩ = some (.int .u32 t142) := (blk_cell BK133.out 1).trans rfl; have hcz24_2 : w23.cell? ⟨gb133, 2, none⟩ = some (.int .u32 t143) := (blk_cell BK133.out 2).trans rfl; have hcz24_3 : w23.cell? ⟨gb133, 3, none⟩ = some (.int .u32 t144) := (blk_cell BK133.out 3).trans rfl; have hfz24_0 := blk_frozen BK133.out 0; have hfz24_1 := blk_frozen BK133.out 1; have hfz24_2 := blk_frozen BK133.out 2; have hfz24_3 := blk_frozen BK133.out 3))
  have n0_ : Aside0 (Kd.R (Kd.int .u8) 5 ((((w23.setCell ⟨gb133, 0, none⟩ (.int .u32 t145)).setCell ⟨gb133, 1, none⟩ (.int .u32 t146)).setCell ⟨gb133, 2, none⟩ (.int .u32 t147)).setCell ⟨gb133, 3, none⟩ (.int .u32 t148)) w.heap.size (fun _ => True) (.slice Ao14 t134.length co14) t134) := ⟨by (with_reducible repeat (first | apply Kd.R_alloc | apply Kd.R_drewN | apply Kd.R_drew)); exact Kd.R_mono (Kd.R_far (p := ⟨gb133, 3, none⟩) (Kd.R_far (p := ⟨gb133, 2, none⟩) (Kd.R_far (p := ⟨gb133, 1, none⟩) (Kd.R_far (p := ⟨gb133, 0, none⟩) (Kd.R_types HO136.out BK133.out (by decide)) (fun _ hk => hk.2) (.int .u32 t145)) (fun _ hk => hk.2) (.int .u32 t146)) (fun _ hk => hk.2) (.int .u32 t147)) (fun _ hk => hk.2) (.int .u32 t148)) (fun _ hk => trivial)⟩
  have n1_ : Aside0 (((((w23.setCell ⟨gb133, 0, none⟩ (.int .u32 t145)).setCell ⟨gb133, 1, none⟩ (.int .u32 t146)).setCell ⟨gb133, 2, none⟩ (.int .u32 t147)).setCell ⟨gb133, 3, none⟩ (.int .u32 t148)).heap[gb133]? = some (.cells #[.int .u32 t145, .int .u32 t146, .int .u32 t147, .int .u32 t148] 153 (0, 0))) := ⟨by (with_reducible repeat (first | refine blk_drewN ?_ _ | refine blk_drew ?_ | refine blk_alloc ?_ _)); refine blk_put (cs := #[.int .u32 t145, .int .u32 t146, .int .u32 t147, .int .u32 t144]) ?_ 3 _ rfl; (with_reducible repeat (first | refine blk_drewN ?_ _ | refine blk_drew ?_ | refine blk_alloc ?_ _)); refine blk_put (cs := #[.int .u32 t145, .int .u32 t146, .int .u32 t143, .int .u32 t144]) ?_ 2 _ rfl; (with_reducible repeat (first | refine blk_drewN ?_ _ | refine blk_drew ?_ | refine blk_alloc ?_ _)); refine blk_put (cs := #[.int .u32 t145, .int .u32 t142, .int .u32 t143, .int .u32 t144]) ?_ 1 _ rfl; (with_reducible repeat (first | refine blk_drewN ?_ _ | refine blk_drew ?_ | refine blk_alloc ?_ _)); refine blk_put (cs := #[.int .u32 t141, .int .u32 t142, .int .u32 t143, .int .u32 t144]) ?_ 0 _ rfl; (with_reducible repeat (first | refine blk_drewN ?_ _ | refine blk_drew ?_ | refine blk_alloc ?_ _)); exact BK133.out⟩
  have n2_ : Aside0 (Below w.heap.size w ((((w23.setCell ⟨gb133, 0, none⟩ (.int .u32 t145)).setCell ⟨gb133, 1, none⟩ (.int .u32 t146)).setCell ⟨gb133, 2, none⟩ (.int .u32 t147)).setCell ⟨gb133, 3, none⟩ (.int .u32 t148))) := ⟨by repeat (first | (with_reducible first | exact HB.out | apply below_alloc | apply pw_below_drewN | apply below_drew1 | refine below_set ?_ GE133.out) | exact HB.out)⟩
  (try clear HO136)
  (try clear BK133)
  (try clear HB)
  generalize ((((w23.setCell ⟨gb133, 0, none⟩ (.int .u32 t145)).setCell ⟨gb133, 1, none⟩ (.int .u32 t146)).setCell ⟨gb133, 2, none⟩ (.int .u32 t147)).setCell ⟨gb133, 3, none⟩ (.int .u32 t148)) = w25 at n0_ n1_ n2_ ⊢
  have HO136 := n0_
  have BK133 := n1_
  have HB := n2_
  clear n0_ n1_ n2_
  have n0_ := Aside0.mk (Kd.R_drew HO136.out)
  have n1_ := Aside0.mk (blk_drew BK133.out)
  have n2_ := Aside0.mk (below_drew1 HB.out)
  clear HO136
  clear BK133
  clear HB
  have HO136 := n0_
  have BK133 := n1_
  have HB := n2_
  clear n0_ n1_ n2_
  refine start_ (n := 6) (S := fun w' => w'.cell? ⟨gb133, 0, none⟩ = some (.int .u32 t145) ∧ w'.cell? ⟨gb133, 1, none⟩ = some (.int .u32 t146) ∧ w'.cell? ⟨gb133, 2, none⟩ = some (.int .u32 t147) ∧ w'.cell? ⟨gb133, 3, none⟩ = some (.int .u32 t148)) (ds := [5]) #[false, false, false, false, false, false] (by kernel_rfl) rfl rfl ⟨(blk_cell BK133.out 0).trans rfl, (blk_cell BK133.out 1).trans rfl, (blk_cell BK133.out 2).trans rfl, (blk_cell BK133.out 3).trans rfl⟩ (fun hHeld => ?_)
  generalize w25.drew = w26 at HO136 BK133 HB hHeld ⊢
  refine pure_ (i := 1) (N := some 21) (v := ?_) (a' := ?_) #[false, true, false, false, false, false] rfl rfl (by kernel_rfl) (fun _ _ _ h => h) (Or.inl ⟨by rfl, ?_⟩) ?_ ?_
  rotate_left
  · intro w'
    go_simp
    with_reducible rfl
  rotate_left
  · simp only [Act.put, List.setIfInBounds_toArray, List.set_cons_zero, List.set_cons_succ, i64_w, i32_w]
    rfl
  refine pure_ (i := 2) (N := some 22) (v := ?_) (a' := ?_) #[false, true, true, false, false, false] rfl rfl (by kernel_rfl) (fun _ _ _ h => h) (Or.inl ⟨by rfl, ?_⟩) ?_ ?_
  rotate_left
  · intro w'
    go_simp
    with_reducible rfl
  rotate_left
  · simp only [Act.put, List.setIfInBounds_toArray, List.set_cons_zero, List.set_cons_succ, i64_w, i32_w]
    rfl
  refine take_ (i := 0) (N := some 20) (v := ?_) (a' := ?_) #[true, true, true, false, false, false] rfl rfl (by kernel_rfl) (fun _ _ _ h => h) (Or.inl ⟨by rfl, ?_⟩) hHeld ?_ ?_
  rotate_left
  · rintro w' ⟨s0, s1, s2, s3⟩
    go_simp
    with_reducible rfl
  rotate_left
  · simp only [Act.put, List.setIfInBounds_toArray, List.set_cons_zero, List.set_cons_succ, i64_w, i32_w]
    rfl
  refine one_ (i := 3) (N := some 23) #[true, true, true, true, false, false] rfl rfl (by kernel_rfl) (by decide) (fun K hK => ?_)
  refine goes_ Try.func67 (by kernel_rfl) rfl #[.int .i64 (l1.length : Int), .int .i64 4] (by rfl) rfl rfl (by (try simp only [List.map_toArray, List.map_cons, List.map_nil]); first | done | rfl | (simp only [List.length_drop, List.length_take]; rfl)) ?_
  with_reducible refine (spec_l01Digits.calls k (l1.length : Int) 4 t149 _ A7.out).mono ?_
  rintro e w27 ⟨v150, rfl, ho0, hb⟩
  refine ⟨_, rfl, ?_⟩
  have n0_ := Aside0.mk (Kd.R_elder' (by (with_reducible repeat (first | apply Kd.R_alloc | apply Kd.R_drewN | apply Kd.R_drew)); exact HO136.out) (Kd.R_base ho0) hb)
  have n1_ := Aside0.mk (Kd.R_lower (Kd.R_new' ho0 (Kd.R_lt (by (with_reducible repeat (first | apply Kd.R_alloc | apply Kd.R_drewN | apply Kd.R_drew)); exact HO136.out))) (below_size (by repeat (first | (with_reducible first | exact HB.out | apply below_alloc | apply pw_below_drewN | apply below_drew1 | refine below_set ?_ GE133.out) | exact HB.out))))
  have n2_ := Aside0.mk (blk_below (g := gb133) (o := .cells #[.int .u32 t145, .int .u32 t146, .int .u32 t147, .int .u32 t148] 153 (0, 0)) (by (with_reducible repeat (first | refine blk_drewN ?_ _ | refine blk_drew ?_ | refine blk_alloc ?_ _)); exact BK133.out) hb)
  have n3_ := Aside0.mk (below_step (by repeat (first | (with_reducible first | exact HB.out | apply below_alloc | apply pw_below_drewN | apply below_drew1 | refine below_set ?_ GE133.out) | exact HB.out)) hb)
  clear HO136
  clear BK133
  clear HB
  have HO136 := n0_
  have HO151 := n1_
  have BK133 := n2_
  have HB := n3_
  clear n0_ n1_ n2_ n3_
  (try clear hb)
  (try clear hb2)
  (try clear hk)
  (try clear hi)
  (try clear ho0)
  obtain ⟨Ao28, co28, eo28⟩ := Kd.R_slice HO151.out
  (first | subst eo28 | (injection eo28 with f1_ f2_ f3_; have f4_ := f1_.symm; have f5_ := f3_.symm; clear f1_ f2_ f3_; subst f4_; subst f5_))
  refine hK.out _ _ ⟨(blk_cell BK133.out 0).trans rfl, (blk_cell BK133.out 1).trans rfl, (blk_cell BK133.out 2).trans rfl, (blk_cell BK133.out 3).trans rfl⟩ (fun hHeld => ?_)
  clear hK K
  refine norm_ (a' := ?_) ?_ ?_
  rotate_left
  · show Act.put _ (some 23) _ = _
    simp only [Act.put, List.setIfInBounds_toArray, List.set_cons_zero, List.set_cons_succ, i64_w, i32_w]
    rfl
  refine one_ (i := 4) (N := some 24) #[true, true, true, true, true, false] rfl rfl (by kernel_rfl) (by decide) (fun K hK => ?_)
  refine goes_ Try.func136 (by kernel_rfl) rfl #[.agg #[.int .u32 t145, .int .u32 t146, .int .u32 t147, .int .u32 t148], .slice Ao28 t149.length co28] (by rfl) rfl rfl (by (try simp only [List.map_toArray, List.map_cons, List.map_nil]); first | done | rfl | (simp only [List.length_drop, List.length_take]; rfl)) ?_
  with_reducible refine (spec_l03Stir.calls k t145 t146 t147 t148 _ _ t149 t152 t153 t154 t155 _ ?side1 ?side2 A8.out).mono ?_
  (case side1 => repeat (first | exact (Kd.R_reads' HO151.out).2.2 | (with_reducible refine Kd.C_alloc ?_ _) | (with_reducible refine Kd.C_drewN ?_ _) | (with_reducible refine Kd.C_drew ?_)))
  (case side2 => exact (Kd.R_reads' HO151.out).2.1)
  rintro e w29 ⟨rfl, hb⟩
  refine ⟨_, rfl, ?_⟩
  have n0_ := Aside0.mk (Kd.R_below (by (with_reducible repeat (first | apply Kd.R_alloc | apply Kd.R_drewN | apply Kd.R_drew)); exact HO136.out) hb)
  have n1_ := Aside0.mk (Kd.R_below (by (with_reducible repeat (first | apply Kd.R_alloc | apply Kd.R_drewN | apply Kd.R_drew)); exact HO151.out) hb)
  have n2_ := Aside0.mk (blk_below (g := gb133) (o := .cells #[.int .u32 t145, .int .u32 t146, .int .u32 t147, .int .u32 t148] 153 (0, 0)) (by (with_reducible repeat (first | refine blk_drewN ?_ _ | refine blk_drew ?_ | refine blk_alloc ?_ _)); exact BK133.out) hb)
  have n3_ := Aside0.mk (below_step (by repeat (first | (with_reducible first | exact HB.out | apply below_alloc | apply pw_below_drewN | apply below_drew1 | refine below_set ?_ GE133.out) | exact HB.out)) hb)
  clear HO136
  clear HO151
  clear BK133
  clear HB
  have HO136 := n0_
  have HO151 := n1_
  have BK133 := n2_
  have HB := n3_
  clear n0_ n1_ n2_ n3_
  (try clear hb)
  (try clear hb2)
  (try clear hk)
  (try clear hi)
  refine hK.out _ _ ⟨(blk_cell BK133.out 0).trans rfl, (blk_cell BK133.out 1).trans rfl, (blk_cell BK133.out 2).trans rfl, (blk_cell BK133.out 3).trans rfl⟩ (fun hHeld => ?_)
  clear hK K
  refine norm_ (a' := ?_) ?_ ?_
  rotate_left
  · show Act.put _ (some 24) _ = _
    simp only [Act.put, List.setIfInBounds_toArray, List.set_cons_zero, List.set_cons_succ, i64_w, i32_w]
    rfl
  refine last_ (i := 5) (N := none) #[true, true, true, true, true, true] rfl rfl (by kernel_rfl) (by decide) (fun K hK => ?_)
  have hs30 : w29.cell? ⟨gb133, 0, none⟩ = some (.int .u32 t145) := (blk_cell BK133.out 0).trans rfl
  have hfs30 := blk_frozen BK133.out 0
  have hs31 : w29.cell? ⟨gb133, 1, none⟩ = some (.int .u32 t146) := (blk_cell BK133.out 1).trans rfl
  have hfs31 := blk_frozen BK133.out 1
  have hs32 : w29.cell? ⟨gb133, 2, none⟩ = some (.int .u32 t147) := (blk_cell BK133.out 2).trans rfl
  have hfs32 := blk_frozen BK133.out 2
  have hs33 : w29.cell? ⟨gb133, 3, none⟩ = some (.int .u32 t148) := (blk_cell BK133.out 3).trans rfl
  have hfs33 := blk_frozen BK133.out 3
  refine skip_ (w1 := ?_) (by rfl) rfl ?_ ?_
  rotate_left
  · go_simp
    rfl
  refine hK.out _ _ ?_
  clear hK K
  refine done_ (by kernel_rfl) ?_
  try go_wp2
  go_loopg [6] k (fun kq v6 w' => ∃ (x6_1 : Int) (x134000_1 : Int) (x134001_1 : Int) (x134002_1 : Int) (x134003_1 : Int), v6 = .int .i64 x6_1 ∧ Aside0 (spec_l03Digest.l0 kq x6_1 x134000_1 x134001_1 x134002_1 x134003_1 = some r) ∧ Aside0 (kq ≤ k) ∧ Aside0 (w'.heap[gb133]? = some (.cells #[.int .u32 x134000_1, .int .u32 x134001_1, .int .u32 x134002_1, .int .u32 x134003_1] 153 (0, 0))) ∧ Aside0 (Below w.heap.size w w'))
  case atStart => exact ⟨(0), (t152), (t153), (t154), (t155), (by first | rfl | (simp; done) | (simp [*]; done)), H', ⟨Nat.le_refl _⟩, ⟨by (with_reducible repeat (first | refine blk_drewN ?_ _ | refine blk_drew ?_ | refine blk_alloc ?_ _)); refine blk_put (cs := #[.int .u32 t152, .int .u32 t153, .int .u32 t154, .int .u32 t148]) ?_ 3 _ rfl; (with_reducible repeat (first | refine blk_drewN ?_ _ | refine blk_drew ?_ | refine blk_alloc ?_ _)); refine blk_put (cs := #[.int .u32 t152, .int .u32 t153, .int .u32 t147, .int .u32 t148]) ?_ 2 _ rfl; (with_reducible repeat (first | refine blk_drewN ?_ _ | refine blk_drew ?_ | refine blk_alloc ?_ _)); refine blk_put (cs := #[.int .u32 t152, .int .u32 t146, .int .u32 t147, .int .u32 t148]) ?_ 1 _ rfl; (with_reducible repeat (first | refine blk_drewN ?_ _ | refine blk_drew ?_ | refine blk_alloc ?_ _)); refine blk_put (cs := #[.int .u32 t145, .int .u32 t146, .int .u32 t147, .int .u32 t148]) ?_ 0 _ rfl; (with_reducible repeat (first | refine blk_drewN ?_ _ | refine blk_drew ?_ | refine blk_alloc ?_ _)); exact BK133.out⟩, ⟨by repeat (first | (with_reducible first | exact HB.out | apply below_alloc | apply pw_below_drewN | apply below_drew1 | refine below_set ?_ GE133.out) | exact HB.out)⟩⟩
  case round =>
    clear H'
    try clear c1
    try clear p2
    try clear c6
    try clear c13
    try clear hcz10_0
    try clear hcz10_1
    try clear hcz10_2
    try clear hcz10_3
    try clear hcz20_0
    try clear hcz20_1
    try clear hcz20_2
    try clear hcz20_3
    try clear hcz22_0
    try clear hcz22_1
    try clear hcz22_2
    try clear hcz22_3
    try clear hcz24_0
    try clear hcz24_1
    try clear hcz24_2
    try clear hcz24_3
    try clear hfz10_0
    try clear hfz10_1
    try clear hfz10_2
    try clear hfz10_3
    try clear hfz20_0
    try clear hfz20_1
    try clear hfz20_2
    try clear hfz20_3
    try clear hfz22_0
    try clear hfz22_1
    try clear hfz22_2
    try clear hfz22_3
    try clear hfz24_0
    try clear hfz24_1
    try clear hfz24_2
    try clear hfz24_3
    obtain ⟨x6_1, x134000_1, x134001_1, x134002_1, x134003_1, rfl, HA, HK1, BK133, HB⟩ := hrel
    cases gk with
    | zero => exact absurd HA.out (by simp [spec_l03Digest.l0])
    | succ k1 =>
      have H := HA.out
      clear HA
      simp only [spec_l03Digest.l0] at H
      by_cases c34 : x6_1 < 16
      · rw [if_pos c34] at H
        have c34b0 : decide (x6_1 < 16) = true := decide_eq_true c34
        clear c34
        obtain ⟨y156, hy156⟩ : ∃ y_ : List Int, y_ = (([165] : List Int)) := ⟨_, rfl⟩
        replace H : ((spec_l03Stir.f k1 x134000_1 x134001_1 x134002_1 x134003_1 y156).bind fun bt159 => (spec_l03Digest.l0 k1 (wrap64 (x6_1 + 1)) bt159.1 bt159.2.1 bt159.2.2.1 bt159.2.2.2)) = some r := by first | (rw [hy156]; with_reducible exact H) | (have H2_ := (Option.bind_some _ _).symm.trans H; rw [hy156]; with_reducible exact H2_) | (have H2_ := (Option.bind_some _ _).symm.trans H; with_reducible exact H2_) | with_reducible exact H | (rw [hy156]; exact H) | exact H
        have Ny156 := Aside0.mk hy156
        clear hy156
        replace H := Option.bind_eq_some_iff.mp H
        obtain ⟨⟨t159, t160, t161, t162⟩, A350, H⟩ := H
        replace H : (spec_l03Digest.l0 k1 (wrap64 (x6_1 + 1)) t159 t160 t161 t162) = some r := H
        have A35 := Aside0.mk A350
        clear A350
        have H' := Aside0.mk H
        clear H
        have hcz36_0 : wr.cell? ⟨gb133, 0, none⟩ = some (.int .u32 x134000_1) := (blk_cell BK133.out 0).trans rfl
        have hcz36_1 : wr.cell? ⟨gb133, 1, none⟩ = some (.int .u32 x134001_1) := (blk_cell BK133.out 1).trans rfl
        have hcz36_2 : wr.cell? ⟨gb133, 2, none⟩ = some (.int .u32 x134002_1) := (blk_cell BK133.out 2).trans rfl
        have hcz36_3 : wr.cell? ⟨gb133, 3, none⟩ = some (.int .u32 x134003_1) := (blk_cell BK133.out 3).trans rfl
        have hfz36_0 := blk_frozen BK133.out 0
        have hfz36_1 := blk_frozen BK133.out 1
        have hfz36_2 := blk_frozen BK133.out 2
        have hfz36_3 := blk_frozen BK133.out 3
        go_wp2_with (first | ((with_reducible refine gate_dst (N := 30) rfl ?_); refine Kd.R_lit (Kd.int .u8) _ 5 ?hg (N := 30) ?hd (xs := ([165] : List Int)) (inner := [.int .u8 165]) (ok := fun _ => True) (okp := fun _ => True) ?hr ?hp (fun _ hk => hk) trivial (Below.refl _ _) (Nat.le_refl _) (by simp) ?_; (case hd => rfl); (case hg => rfl); (case hr => first | (go_simp; done) | (go_simp; rfl)); (case hp => exact (Reps.one (show Kd.M (Kd.int .u8) _ _ _ 165 [.int .u8 165] from rfl) (Reps.none _ _))); intro v157 w37 ho38 hb hg_ hnew_; clear hg_ hnew_; (first | rw [← Ny156.out] at ho38 | (simp only [Int.reduceToNat] at ho38; rw [← Ny156.out] at ho38)); have n0_ := Aside0.mk (Kd.R_lower ho38 (below_size (by repeat (first | (with_reducible first | exact HB.out | apply below_alloc | apply pw_below_drewN | apply below_drew1 | refine below_set ?_ GE133.out) | exact HB.out)))); have n1_ := Aside0.mk (blk_below (g := gb133) (o := .cells #[.int .u32 x134000_1, .int .u32 x134001_1, .int .u32 x134002_1, .int .u32 x134003_1] 153 (0, 0)) (by (with_reducible repeat (first | refine blk_drewN ?_ _ | refine blk_drew ?_ | refine blk_alloc ?_ _)); exact BK133.out) hb); have n2_ := Aside0.mk (below_step (by repeat (first | (with_reducible first | exact HB.out | apply below_alloc | apply pw_below_drewN | apply below_drew1 | refine below_set ?_ GE133.out) | exact HB.out)) hb); clear BK133; clear HB; have HO158 := n0_; have BK133 := n1_; have HB := n2_; clear n0_ n1_ n2_; clear hb ho38; obtain ⟨Ao39, co39, eo39⟩ := Kd.R_slice HO158.out; subst eo39) | ((with_reducible refine gate_callee (f := 136) rfl ?_); refine goesL_ (some 31) rfl rfl Try.func136 (by kernel_rfl) rfl #[.agg #[.int .u32 x134000_1, .int .u32 x134001_1, .int .u32 x134002_1, .int .u32 x134003_1], .slice Ao39 y156.length co39] rfl (by (try simp only [List.map_toArray, List.map_cons, List.map_nil]); first | done | rfl | (simp only [List.length_drop, List.length_take]; rfl)) ?_; (with_reducible refine (spec_l03Stir.calls k1 x134000_1 x134001_1 x134002_1 x134003_1 _ _ y156 t159 t160 t161 t162 _ ?side1 ?side2 A35.out).mono ?_); (case side1 => repeat (first | exact (Kd.R_reads' HO158.out).2.2 | (with_reducible refine Kd.C_alloc ?_ _) | (with_reducible refine Kd.C_drewN ?_ _) | (with_reducible refine Kd.C_drew ?_))); (case side2 => exact (Kd.R_reads' HO158.out).2.1); rintro e w40 ⟨rfl, hb⟩; refine ⟨_, rfl, ?_⟩; have n0_ := Aside0.mk (Kd.R_below (by (with_reducible repeat (first | apply Kd.R_alloc | apply Kd.R_drewN | apply Kd.R_drew)); exact HO158.out) hb); have n1_ := Aside0.mk (blk_below (g := gb133) (o := .cells #[.int .u32 x134000_1, .int .u32 x134001_1, .int .u32 x134002_1, .int .u32 x134003_1] 153 (0, 0)) (by (with_reducible repeat (first | refine blk_drewN ?_ _ | refine blk_drew ?_ | refine blk_alloc ?_ _)); exact BK133.out) hb); have n2_ := Aside0.mk (below_step (by repeat (first | (with_reducible first | exact HB.out | apply below_alloc | apply pw_below_drewN | apply below_drew1 | refine below_set ?_ GE133.out) | exact HB.out)) hb); clear HO158; clear BK133; clear HB; have HO158 := n0_; have BK133 := n1_; have HB := n2_; clear n0_ n1_ n2_; (try clear hb); (try clear hb2); (try clear hk); (try clear hi); have hcz41_0 : w40.cell? ⟨gb133, 0, none⟩ = some (.int .u32 x134000_1) := (blk_cell BK133.out 0).trans rfl; have hcz41_1 : w40.cell? ⟨gb133, 1, none⟩ = some (.int .u32 x134001_1) := (blk_cell BK133.out 1).trans rfl; have hcz41_2 : w40.cell? ⟨gb133, 2, none⟩ = some (.int .u32 x134002_1) := (blk_cell BK133.out 2).trans rfl; have hcz41_3 : w40.cell? ⟨gb133, 3, none⟩ = some (.int .u32 x134003_1) := (blk_cell BK133.out 3).trans rfl; have hfz41_0 := blk_frozen BK133.out 0; have hfz41_1 := blk_frozen BK133.out 1; have hfz41_2 := blk_frozen BK133.out 2; have hfz41_3 := blk_frozen BK133.out 3))
        go_roundg k1
        case measure => have := HK1.out; omega
        case rel => exact ⟨(wrap64 (x6_1 + 1)), (t159), (t160), (t161), (t162), (by first | rfl | (simp; done) | (simp [*]; done)), H', ⟨by have := HK1.out; omega⟩, ⟨by (with_reducible repeat (first | refine blk_drewN ?_ _ | refine blk_drew ?_ | refine blk_alloc ?_ _)); refine blk_put (cs := #[.int .u32 t159, .int .u32 t160, .int .u32 t161, .int .u32 x134003_1]) ?_ 3 _ rfl; (with_reducible repeat (first | refine blk_drewN ?_ _ | refine blk_drew ?_ | refine blk_alloc ?_ _)); refine blk_put (cs := #[.int .u32 t159, .int .u32 t160, .int .u32 x134002_1, .int .u32 x134003_1]) ?_ 2 _ rfl; (with_reducible repeat (first | refine blk_drewN ?_ _ | refine blk_drew ?_ | refine blk_alloc ?_ _)); refine blk_put (cs := #[.int .u32 t159, .int .u32 x134001_1, .int .u32 x134002_1, .int .u32 x134003_1]) ?_ 1 _ rfl; (with_reducible repeat (first | refine blk_drewN ?_ _ | refine blk_drew ?_ | refine blk_alloc ?_ _)); refine blk_put (cs := #[.int .u32 x134000_1, .int .u32 x134001_1, .int .u32 x134002_1, .int .u32 x134003_1]) ?_ 0 _ rfl; (with_reducible repeat (first | refine blk_drewN ?_ _ | refine blk_drew ?_ | refine blk_alloc ?_ _)); exact BK133.out⟩, ⟨by repeat (first | (with_reducible first | exact HB.out | apply below_alloc | apply pw_below_drewN | apply below_drew1 | refine below_set ?_ GE133.out) | exact HB.out)⟩⟩
      · rw [if_neg c34] at H
        have c34b0 : decide (x6_1 < 16) = false := decide_eq_false c34
        clear c34
        replace H := Option.bind_eq_some_iff.mp H
        obtain ⟨t163, A420, H⟩ := H
        replace H : ((spec_l01Digits.f k1 (wrap64 (x134001_1)) 4).bind fun t166 => (if t163.length + t166.length < 140737488355328 then ((some (t163 ++ t166 : List Int)).bind fun y169 => ((spec_l01Digits.f k1 (wrap64 (x134002_1)) 4).bind fun t172 => (if y169.length + t172.length < 140737488355328 then ((some (y169 ++ t172 : List Int)).bind fun y175 => ((spec_l01Digits.f k1 (wrap64 (x134003_1)) 4).bind fun t178 => (if y175.length + t178.length < 140737488355328 then (some (y175 ++ t178)) else (none)))) else (none)))) else (none))) = some r := H
        have A42 := Aside0.mk A420
        clear A420
        replace H := Option.bind_eq_some_iff.mp H
        obtain ⟨t166, A430, H⟩ := H
        replace H : (if t163.length + t166.length < 140737488355328 then ((some (t163 ++ t166 : List Int)).bind fun y169 => ((spec_l01Digits.f k1 (wrap64 (x134002_1)) 4).bind fun t172 => (if y169.length + t172.length < 140737488355328 then ((some (y169 ++ t172 : List Int)).bind fun y175 => ((spec_l01Digits.f k1 (wrap64 (x134003_1)) 4).bind fun t178 => (if y175.length + t178.length < 140737488355328 then (some (y175 ++ t178)) else (none)))) else (none)))) else (none)) = some r := H
        have A43 := Aside0.mk A430
        clear A430
        by_cases c44 : t163.length + t166.length < 140737488355328
        · rw [if_pos c44] at H
          have LMc44 := Aside0.mk c44
          clear c44
          obtain ⟨y169, hy169⟩ : ∃ y_ : List Int, y_ = (t163 ++ t166) := ⟨_, rfl⟩
          replace H : ((spec_l01Digits.f k1 (wrap64 (x134002_1)) 4).bind fun t172 => (if y169.length + t172.length < 140737488355328 then ((some (y169 ++ t172 : List Int)).bind fun y175 => ((spec_l01Digits.f k1 (wrap64 (x134003_1)) 4).bind fun t178 => (if y175.length + t178.length < 140737488355328 then (some (y175 ++ t178)) else (none)))) else (none))) = some r := by first | (rw [hy169]; with_reducible exact H) | (have H2_ := (Option.bind_some _ _).symm.trans H; rw [hy169]; with_reducible exact H2_) | (have H2_ := (Option.bind_some _ _).symm.trans H; with_reducible exact H2_) | with_reducible exact H | (rw [hy169]; exact H) | exact H
          have Ny169 := Aside0.mk hy169
          clear hy169
          replace H := Option.bind_eq_some_iff.mp H
          obtain ⟨t172, A450, H⟩ := H
          replace H : (if y169.length + t172.length < 140737488355328 then ((some (y169 ++ t172 : List Int)).bind fun y175 => ((spec_l01Digits.f k1 (wrap64 (x134003_1)) 4).bind fun t178 => (if y175.length + t178.length < 140737488355328 then (some (y175 ++ t178)) else (none)))) else (none)) = some r := H
          have A45 := Aside0.mk A450
          clear A450
          by_cases c46 : y169.length + t172.length < 140737488355328
          · rw [if_pos c46] at H
            have LMc46 := Aside0.mk c46
            clear c46
            obtain ⟨y175, hy175⟩ : ∃ y_ : List Int, y_ = (y169 ++ t172) := ⟨_, rfl⟩
            replace H : ((spec_l01Digits.f k1 (wrap64 (x134003_1)) 4).bind fun t178 => (if y175.length + t178.length < 140737488355328 then (some (y175 ++ t178)) else (none))) = some r := by first | (rw [hy175]; with_reducible exact H) | (have H2_ := (Option.bind_some _ _).symm.trans H; rw [hy175]; with_reducible exact H2_) | (have H2_ := (Option.bind_some _ _).symm.trans H; with_reducible exact H2_) | with_reducible exact H | (rw [hy175]; exact H) | exact H
            have Ny175 := Aside0.mk hy175
            clear hy175
            replace H := Option.bind_eq_some_iff.mp H
            obtain ⟨t178, A470, H⟩ := H
            replace H : (if y175.length + t178.length < 140737488355328 then (some (y175 ++ t178)) else (none)) = some r := H
            have A47 := Aside0.mk A470
            clear A470
            by_cases c48 : y175.length + t178.length < 140737488355328
            · rw [if_pos c48] at H
              have LMc48 := Aside0.mk c48
              clear c48
              obtain ⟨y181, hy181⟩ : ∃ y_ : List Int, y_ = (y175 ++ t178) := ⟨_, rfl⟩
              replace H : (some y181) = some r := by first | (rw [hy181]; with_reducible exact H) | (have H2_ := (Option.bind_some _ _).symm.trans H; rw [hy181]; with_reducible exact H2_) | (have H2_ := (Option.bind_some _ _).symm.trans H; with_reducible exact H2_) | with_reducible exact H | (rw [hy181]; exact H) | exact H
              have Ny181 := Aside0.mk hy181
              clear hy181
              obtain rfl := Option.some.inj H
              have hcz49_0 : wr.cell? ⟨gb133, 0, none⟩ = some (.int .u32 x134000_1) := (blk_cell BK133.out 0).trans rfl
              have hcz49_1 : wr.cell? ⟨gb133, 1, none⟩ = some (.int .u32 x134001_1) := (blk_cell BK133.out 1).trans rfl
              have hcz49_2 : wr.cell? ⟨gb133, 2, none⟩ = some (.int .u32 x134002_1) := (blk_cell BK133.out 2).trans rfl
              have hcz49_3 : wr.cell? ⟨gb133, 3, none⟩ = some (.int .u32 x134003_1) := (blk_cell BK133.out 3).trans rfl
              have hfz49_0 := blk_frozen BK133.out 0
              have hfz49_1 := blk_frozen BK133.out 1
              have hfz49_2 := blk_frozen BK133.out 2
              have hfz49_3 := blk_frozen BK133.out 3
              go_wp2_with (first | ((with_reducible refine gate_callee (f := 67) rfl ?_); refine goesL_ (some 35) rfl rfl Try.func67 (by kernel_rfl) rfl #[.int .i64 (wrap64 (x134000_1)), .int .i64 4] rfl (by (try simp only [List.map_toArray, List.map_cons, List.map_nil]); first | done | rfl | (simp only [List.length_drop, List.length_take]; rfl)) ?_; (with_reducible refine (spec_l01Digits.calls k1 (wrap64 (x134000_1)) 4 t163 _ A42.out).mono ?_); rintro e w50 ⟨v164, rfl, ho0, hb⟩; refine ⟨_, rfl, ?_⟩; have n0_ := Aside0.mk (Kd.R_lower ho0 (below_size (by repeat (first | (with_reducible first | exact HB.out | apply below_alloc | apply pw_below_drewN | apply below_drew1 | refine below_set ?_ GE133.out) | exact HB.out)))); have n1_ := Aside0.mk (blk_below (g := gb133) (o := .cells #[.int .u32 x134000_1, .int .u32 x134001_1, .int .u32 x134002_1, .int .u32 x134003_1] 153 (0, 0)) (by (with_reducible repeat (first | refine blk_drewN ?_ _ | refine blk_drew ?_ | refine blk_alloc ?_ _)); exact BK133.out) hb); have n2_ := Aside0.mk (below_step (by repeat (first | (with_reducible first | exact HB.out | apply below_alloc | apply pw_below_drewN | apply below_drew1 | refine below_set ?_ GE133.out) | exact HB.out)) hb); clear BK133; clear HB; have HO165 := n0_; have BK133 := n1_; have HB := n2_; clear n0_ n1_ n2_; (try clear hb); (try clear hb2); (try clear hk); (try clear hi); (try clear ho0); have hcz51_0 : w50.cell? ⟨gb133, 0, none⟩ = some (.int .u32 x134000_1) := (blk_cell BK133.out 0).trans rfl; have hcz51_1 : w50.cell? ⟨gb133, 1, none⟩ = some (.int .u32 x134001_1) := (blk_cell BK133.out 1).trans rfl; have hcz51_2 : w50.cell? ⟨gb133, 2, none⟩ = some (.int .u32 x134002_1) := (blk_cell BK133.out 2).trans rfl; have hcz51_3 : w50.cell? ⟨gb133, 3, none⟩ = some (.int .u32 x134003_1) := (blk_cell BK133.out 3).trans rfl; have hfz51_0 := blk_frozen BK133.out 0; have hfz51_1 := blk_frozen BK133.out 1; have hfz51_2 := blk_frozen BK133.out 2; have hfz51_3 := blk_frozen BK133.out 3) | ((with_reducible refine gate_callee (f := 67) rfl ?_); refine goesL_ (some 40) rfl rfl Try.func67 (by kernel_rfl) rfl #[.int .i64 (wrap64 (x134001_1)), .int .i64 4] rfl (by (try simp only [List.map_toArray, List.map_cons, List.map_nil]); first | done | rfl | (simp only [List.length_drop, List.length_take]; rfl)) ?_; (with_reducible refine (spec_l01Digits.calls k1 (wrap64 (x134001_1)) 4 t166 _ A43.out).mono ?_); rintro e w52 ⟨v167, rfl, ho0, hb⟩; refine ⟨_, rfl, ?_⟩; have n0_ := Aside0.mk (Kd.R_elder' (by (with_reducible repeat (first | apply Kd.R_alloc | apply Kd.R_drewN | apply Kd.R_drew)); exact HO165.out) (Kd.R_base ho0) hb); have n1_ := Aside0.mk (Kd.R_lower (Kd.R_new' ho0 (Kd.R_lt (by (with_reducible repeat (first | apply Kd.R_alloc | apply Kd.R_drewN | apply Kd.R_drew)); exact HO165.out))) (below_size (by repeat (first | (with_reducible first | exact HB.out | apply below_alloc | apply pw_below_drewN | apply below_drew1 | refine below_set ?_ GE133.out) | exact HB.out)))); have n2_ := Aside0.mk (blk_below (g := gb133) (o := .cells #[.int .u32 x134000_1, .int .u32 x134001_1, .int .u32 x134002_1, .int .u32 x134003_1] 153 (0, 0)) (by (with_reducible repeat (first | refine blk_drewN ?_ _ | refine blk_drew ?_ | refine blk_alloc ?_ _)); exact BK133.out) hb); have n3_ := Aside0.mk (below_step (by repeat (first | (with_reducible first | exact HB.out | apply below_alloc | apply pw_below_drewN | apply below_drew1 | refine below_set ?_ GE133.out) | exact HB.out)) hb); clear HO165; clear BK133; clear HB; have HO165 := n0_; have HO168 := n1_; have BK133 := n2_; have HB := n3_; clear n0_ n1_ n2_ n3_; (try clear hb); (try clear hb2); (try clear hk); (try clear hi); (try clear ho0); obtain ⟨Ao54, co54, eo54⟩ := Kd.R_slice HO168.out; subst eo54) | ((with_reducible refine gate_builtin (b := .append) (xs := #[.tmp 36, .tmp 40]) rfl ?_); at_builtin; refine Kd.R_append_rows (Kd.int .u8) (w0 := w) w.heap.size rfl (.tmp 36) (.tmp 40) 22 5 (.int .u8 0) 1 rfl Try.underlying22 info5 rfl (by decide) (by omega) v164 t163 t166 _ _ _ (fun k_ => some k_ ≠ (.slice Ao54 t166.length co54 : Value).ownBlock) (fun _ => False) rfl rfl ?aO ?aR (fun _ _ h => h) (fun _ h => h.elim) ?aF ?aB ?aS ?aL ?_; (case aR => repeat (first | exact (Kd.R_reads' HO168.out).2.2 | (with_reducible refine Kd.C_alloc ?_ _) | (with_reducible refine Kd.C_drewN ?_ _) | (with_reducible refine Kd.C_drew ?_))); (case aB => exact (by repeat (first | (with_reducible first | exact HB.out | apply below_alloc | apply pw_below_drewN | apply below_drew1 | refine below_set ?_ GE133.out) | exact HB.out))); (case aF => exact (fun k_ hk => Kd.fresh' (Kd.R_lt (by (with_reducible repeat (first | apply Kd.R_alloc | apply Kd.R_drewN | apply Kd.R_drew)); exact HO168.out)) k_ hk)); (case aO => exact (by (with_reducible repeat (first | apply Kd.R_alloc | apply Kd.R_drewN | apply Kd.R_drew)); exact Kd.R_mono HO165.out (fun _ hk => hk.2))); (case aS => exact (below_size (by repeat (first | (with_reducible first | exact HB.out | apply below_alloc | apply pw_below_drewN | apply below_drew1 | refine below_set ?_ GE133.out) | exact HB.out)))); (case aL => have := LMc44.out; omega); intro v170 w53 ho hb hg hat; rw [← Ny169.out] at ho; have n0_ := Aside0.mk (blk_grown (g := gb133) (o := .cells #[.int .u32 x134000_1, .int .u32 x134001_1, .int .u32 x134002_1, .int .u32 x134003_1] 153 (0, 0)) (by (with_reducible repeat (first | refine blk_drewN ?_ _ | refine blk_drew ?_ | refine blk_alloc ?_ _)); exact BK133.out) hg (Kd.R_ne HO165.out BK133.out (by decide))); have n1_ := Aside0.mk (Kd.R_after (ok := (fun _ => True)) (by (with_reducible repeat (first | apply Kd.R_alloc | apply Kd.R_drewN | apply Kd.R_drew)); exact HO168.out) hg hat); have n2_ := Aside0.mk (hb); have n3_ := Aside0.mk (ho); clear BK133; clear HO168; clear HB; clear HO165; have BK133 := n0_; have HO168 := n1_; have HB := n2_; have HO171 := n3_; clear n0_ n1_ n2_ n3_; clear ho hb hg hat; have hcz55_0 : w53.cell? ⟨gb133, 0, none⟩ = some (.int .u32 x134000_1) := (blk_cell BK133.out 0).trans rfl; have hcz55_1 : w53.cell? ⟨gb133, 1, none⟩ = some (.int .u32 x134001_1) := (blk_cell BK133.out 1).trans rfl; have hcz55_2 : w53.cell? ⟨gb133, 2, none⟩ = some (.int .u32 x134002_1) := (blk_cell BK133.out 2).trans rfl; have hcz55_3 : w53.cell? ⟨gb133, 3, none⟩ = some (.int .u32 x134003_1) := (blk_cell BK133.out 3).trans rfl; have hfz55_0 := blk_frozen BK133.out 0; have hfz55_1 := blk_frozen BK133.out 1; have hfz55_2 := blk_frozen BK133.out 2; have hfz55_3 := blk_frozen BK133.out 3) | ((with_reducible refine gate_callee (f := 67) rfl ?_); refine goesL_ (some 46) rfl rfl Try.func67 (by kernel_rfl) rfl #[.int .i64 (wrap64 (x134002_1)), .int .i64 4] rfl (by (try simp only [List.map_toArray, List.map_cons, List.map_nil]); first | done | rfl | (simp only [List.length_drop, List.length_take]; rfl)) ?_; (with_reducible refine (spec_l01Digits.calls k1 (wrap64 (x134002_1)) 4 t172 _ A45.out).mono ?_); rintro e w56 ⟨v173, rfl, ho0, hb⟩; refine ⟨_, rfl, ?_⟩; have n0_ := Aside0.mk (Kd.R_elder' (by (with_reducible repeat (first | apply Kd.R_alloc | apply Kd.R_drewN | apply Kd.R_drew)); exact HO168.out) (Kd.R_base ho0) hb); have n1_ := Aside0.mk (Kd.R_elder' (by (with_reducible repeat (first | apply Kd.R_alloc | apply Kd.R_drewN | apply Kd.R_drew)); exact HO171.out) (Kd.R_base ho0) hb); have n2_ := Aside0.mk (Kd.R_lower (Kd.R_new' (Kd.R_new' ho0 (Kd.R_lt (by (with_reducible repeat (first | apply Kd.R_alloc | apply Kd.R_drewN | apply Kd.R_drew)); exact HO168.out))) (Kd.R_lt (by (with_reducible repeat (first | apply Kd.R_alloc | apply Kd.R_drewN | apply Kd.R_drew)); exact HO171.out))) (below_size (by repeat (first | (with_reducible first | exact HB.out | apply below_alloc | apply pw_below_drewN | apply below_drew1 | refine below_set ?_ GE133.out) | exact HB.out)))); have n3_ := Aside0.mk (blk_below (g := gb133) (o := .cells #[.int .u32 x134000_1, .int .u32 x134001_1, .int .u32 x134002_1, .int .u32 x134003_1] 153 (0, 0)) (by (with_reducible repeat (first | refine blk_drewN ?_ _ | refine blk_drew ?_ | refine blk_alloc ?_ _)); exact BK133.out) hb); have n4_ := Aside0.mk (below_step (by repeat (first | (with_reducible first | exact HB.out | apply below_alloc | apply pw_below_drewN | apply below_drew1 | refine below_set ?_ GE133.out) | exact HB.out)) hb); clear HO168; clear HO171; clear BK133; clear HB; have HO168 := n0_; have HO171 := n1_; have HO174 := n2_; have BK133 := n3_; have HB := n4_; clear n0_ n1_ n2_ n3_ n4_; (try clear hb); (try clear hb2); (try clear hk); (try clear hi); (try clear ho0); obtain ⟨Ao58, co58, eo58⟩ := Kd.R_slice HO174.out; subst eo58) | ((with_reducible refine gate_builtin (b := .append) (xs := #[.tmp 42, .tmp 46]) rfl ?_); at_builtin; refine Kd.R_append_rows (Kd.int .u8) (w0 := w) w.heap.size rfl (.tmp 42) (.tmp 46) 22 5 (.int .u8 0) 1 rfl Try.underlying22 info5 rfl (by decide) (by omega) v170 y169 t172 _ _ _ (fun k_ => some k_ ≠ (.slice Ao54 t166.length co54 : Value).ownBlock ∧ some k_ ≠ (.slice Ao58 t172.length co58 : Value).ownBlock) (fun _ => False) rfl rfl ?aO ?aR (fun _ _ h => h) (fun _ h => h.elim) ?aF ?aB ?aS ?aL ?_; (case aR => repeat (first | exact (Kd.R_reads' HO174.out).2.2 | (with_reducible refine Kd.C_alloc ?_ _) | (with_reducible refine Kd.C_drewN ?_ _) | (with_reducible refine Kd.C_drew ?_))); (case aB => exact (by repeat (first | (with_reducible first | exact HB.out | apply below_alloc | apply pw_below_drewN | apply below_drew1 | refine below_set ?_ GE133.out) | exact HB.out))); (case aF => exact (fun k_ hk => ⟨Kd.fresh' (Kd.R_lt (by (with_reducible repeat (first | apply Kd.R_alloc | apply Kd.R_drewN | apply Kd.R_drew)); exact HO168.out)) k_ hk, Kd.fresh' (Kd.R_lt (by (with_reducible repeat (first | apply Kd.R_alloc | apply Kd.R_drewN | apply Kd.R_drew)); exact HO174.out)) k_ hk⟩)); (case aO => exact (by (with_reducible repeat (first | apply Kd.R_alloc | apply Kd.R_drewN | apply Kd.R_drew)); exact HO171.out)); (case aS => exact (below_size (by repeat (first | (with_reducible first | exact HB.out | apply below_alloc | apply pw_below_drewN | apply below_drew1 | refine below_set ?_ GE133.out) | exact HB.out)))); (case aL => have := LMc46.out; omega); intro v176 w57 ho hb hg hat; rw [← Ny175.out] at ho; have n0_ := Aside0.mk (blk_grown (g := gb133) (o := .cells #[.int .u32 x134000_1, .int .u32 x134001_1, .int .u32 x134002_1, .int .u32 x134003_1] 153 (0, 0)) (by (with_reducible repeat (first | refine blk_drewN ?_ _ | refine blk_drew ?_ | refine blk_alloc ?_ _)); exact BK133.out) hg (Kd.R_ne HO171.out BK133.out (by decide))); have n1_ := Aside0.mk (Kd.R_after (ok := (fun k_ => some k_ ≠ (.slice Ao58 t172.length co58 : Value).ownBlock)) (by (with_reducible repeat (first | apply Kd.R_alloc | apply Kd.R_drewN | apply Kd.R_drew)); exact Kd.R_mono HO168.out (fun _ hk => ⟨hk.2, hk.1.2⟩)) hg hat); have n2_ := Aside0.mk (Kd.R_after (ok := (fun k_ => some k_ ≠ (.slice Ao54 t166.length co54 : Value).ownBlock)) (by (with_reducible repeat (first | apply Kd.R_alloc | apply Kd.R_drewN | apply Kd.R_drew)); exact Kd.R_mono HO174.out (fun _ hk => ⟨hk.1.2, hk.2⟩)) hg hat); have n3_ := Aside0.mk (hb); have n4_ := Aside0.mk (ho); clear BK133; clear HO168; clear HO174; clear HB; clear HO171; have BK133 := n0_; have HO168 := n1_; have HO174 := n2_; have HB := n3_; have HO177 := n4_; clear n0_ n1_ n2_ n3_ n4_; clear ho hb hg hat; have hcz59_0 : w57.cell? ⟨gb133, 0, none⟩ = some (.int .u32 x134000_1) := (blk_cell BK133.out 0).trans rfl; have hcz59_1 : w57.cell? ⟨gb133, 1, none⟩ = some (.int .u32 x134001_1) := (blk_cell BK133.out 1).trans rfl; have hcz59_2 : w57.cell? ⟨gb133, 2, none⟩ = some (.int .u32 x134002_1) := (blk_cell BK133.out 2).trans rfl; have hcz59_3 : w57.cell? ⟨gb133, 3, none⟩ = some (.int .u32 x134003_1) := (blk_cell BK133.out 3).trans rfl; have hfz59_0 := blk_frozen BK133.out 0; have hfz59_1 := blk_frozen BK133.out 1; have hfz59_2 := blk_frozen BK133.out 2; have hfz59_3 := blk_frozen BK133.out 3) | ((with_reducible refine gate_callee (f := 67) rfl ?_); refine goesL_ (some 52) rfl rfl Try.func67 (by kernel_rfl) rfl #[.int .i64 (wrap64 (x134003_1)), .int .i64 4] rfl (by (try simp only [List.map_toArray, List.map_cons, List.map_nil]); first | done | rfl | (simp only [List.length_drop, List.length_take]; rfl)) ?_; (with_reducible refine (spec_l01Digits.calls k1 (wrap64 (x134003_1)) 4 t178 _ A47.out).mono ?_); rintro e w60 ⟨v179, rfl, ho0, hb⟩; refine ⟨_, rfl, ?_⟩; have n0_ := Aside0.mk (Kd.R_elder' (by (with_reducible repeat (first | apply Kd.R_alloc | apply Kd.R_drewN | apply Kd.R_drew)); exact HO168.out) (Kd.R_base ho0) hb); have n1_ := Aside0.mk (Kd.R_elder' (by (with_reducible repeat (first | apply Kd.R_alloc | apply Kd.R_drewN | apply Kd.R_drew)); exact HO174.out) (Kd.R_base ho0) hb); have n2_ := Aside0.mk (Kd.R_elder' (by (with_reducible repeat (first | apply Kd.R_alloc | apply Kd.R_drewN | apply Kd.R_drew)); exact HO177.out) (Kd.R_base ho0) hb); have n3_ := Aside0.mk (Kd.R_lower (Kd.R_new' (Kd.R_new' (Kd.R_new' ho0 (Kd.R_lt (by (with_reducible repeat (first | apply Kd.R_alloc | apply Kd.R_drewN | apply Kd.R_drew)); exact HO168.out))) (Kd.R_lt (by (with_reducible repeat (first | apply Kd.R_alloc | apply Kd.R_drewN | apply Kd.R_drew)); exact HO174.out))) (Kd.R_lt (by (with_reducible repeat (first | apply Kd.R_alloc | apply Kd.R_drewN | apply Kd.R_drew)); exact HO177.out))) (below_size (by repeat (first | (with_reducible first | exact HB.out | apply below_alloc | apply pw_below_drewN | apply below_drew1 | refine below_set ?_ GE133.out) | exact HB.out)))); have n4_ := Aside0.mk (blk_below (g := gb133) (o := .cells #[.int .u32 x134000_1, .int .u32 x134001_1, .int .u32 x134002_1, .int .u32 x134003_1] 153 (0, 0)) (by (with_reducible repeat (first | refine blk_drewN ?_ _ | refine blk_drew ?_ | refine blk_alloc ?_ _)); exact BK133.out) hb); have n5_ := Aside0.mk (below_step (by repeat (first | (with_reducible first | exact HB.out | apply below_alloc | apply pw_below_drewN | apply below_drew1 | refine below_set ?_ GE133.out) | exact HB.out)) hb); clear HO168; clear HO174; clear HO177; clear BK133; clear HB; have HO168 := n0_; have HO174 := n1_; have HO177 := n2_; have HO180 := n3_; have BK133 := n4_; have HB := n5_; clear n0_ n1_ n2_ n3_ n4_ n5_; (try clear hb); (try clear hb2); (try clear hk); (try clear hi); (try clear ho0); obtain ⟨Ao62, co62, eo62⟩ := Kd.R_slice HO180.out; subst eo62) | ((with_reducible refine gate_builtin (b := .append) (xs := #[.tmp 48, .tmp 52]) rfl ?_); at_builtin; refine Kd.R_append_rows (Kd.int .u8) (w0 := w) w.heap.size rfl (.tmp 48) (.tmp 52) 22 5 (.int .u8 0) 1 rfl Try.underlying22 info5 rfl (by decide) (by omega) v176 y175 t178 _ _ _ (fun k_ => some k_ ≠ (.slice Ao54 t166.length co54 : Value).ownBlock ∧ some k_ ≠ (.slice Ao58 t172.length co58 : Value).ownBlock ∧ some k_ ≠ (.slice Ao62 t178.length co62 : Value).ownBlock) (fun _ => False) rfl rfl ?aO ?aR (fun _ _ h => h) (fun _ h => h.elim) ?aF ?aB ?aS ?aL ?_; (case aR => repeat (first | exact (Kd.R_reads' HO180.out).2.2 | (with_reducible refine Kd.C_alloc ?_ _) | (with_reducible refine Kd.C_drewN ?_ _) | (with_reducible refine Kd.C_drew ?_))); (case aB => exact (by repeat (first | (with_reducible first | exact HB.out | apply below_alloc | apply pw_below_drewN | apply below_drew1 | refine below_set ?_ GE133.out) | exact HB.out))); (case aF => exact (fun k_ hk => ⟨Kd.fresh' (Kd.R_lt (by (with_reducible repeat (first | apply Kd.R_alloc | apply Kd.R_drewN | apply Kd.R_drew)); exact HO168.out)) k_ hk, Kd.fresh' (Kd.R_lt (by (with_reducible repeat (first | apply Kd.R_alloc | apply Kd.R_drewN | apply Kd.R_drew)); exact HO174.out)) k_ hk, Kd.fresh' (Kd.R_lt (by (with_reducible repeat (first | apply Kd.R_alloc | apply Kd.R_drewN | apply Kd.R_drew)); exact HO180.out)) k_ hk⟩)); (case aO => exact (by (with_reducible repeat (first | apply Kd.R_alloc | apply Kd.R_drewN | apply Kd.R_drew)); exact Kd.R_mono HO177.out (fun _ hk => ⟨hk.1.1, ⟨hk.1.2, hk.2⟩⟩))); (case aS => exact (below_size (by repeat (first | (with_reducible first | exact HB.out | apply below_alloc | apply pw_below_drewN | apply below_drew1 | refine below_set ?_ GE133.out) | exact HB.out)))); (case aL => have := LMc48.out; omega); intro v182 w61 ho hb hg hat; rw [← Ny181.out] at ho; have n0_ := Aside0.mk (blk_grown (g := gb133) (o := .cells #[.int .u32 x134000_1, .int .u32 x134001_1, .int .u32 x134002_1, .int .u32 x134003_1] 153 (0, 0)) (by (with_reducible repeat (first | refine blk_drewN ?_ _ | refine blk_drew ?_ | refine blk_alloc ?_ _)); exact BK133.out) hg (Kd.R_ne HO177.out BK133.out (by decide))); have n1_ := Aside0.mk (Kd.R_after (ok := (fun k_ => some k_ ≠ (.slice Ao58 t172.length co58 : Value).ownBlock ∧ some k_ ≠ (.slice Ao62 t178.length co62 : Value).ownBlock)) (by (with_reducible repeat (first | apply Kd.R_alloc | apply Kd.R_drewN | apply Kd.R_drew)); exact Kd.R_mono HO168.out (fun _ hk => ⟨⟨hk.1.1, hk.2⟩, hk.1.2⟩)) hg hat); have n2_ := Aside0.mk (Kd.R_after (ok := (fun k_ => some k_ ≠ (.slice Ao54 t166.length co54 : Value).ownBlock ∧ some k_ ≠ (.slice Ao62 t178.length co62 : Value).ownBlock)) (by (with_reducible repeat (first | apply Kd.R_alloc | apply Kd.R_drewN | apply Kd.R_drew)); exact Kd.R_mono HO174.out (fun _ hk => ⟨⟨hk.1.1, hk.2⟩, hk.1.2⟩)) hg hat); have n3_ := Aside0.mk (Kd.R_after (ok := (fun k_ => some k_ ≠ (.slice Ao54 t166.length co54 : Value).ownBlock ∧ some k_ ≠ (.slice Ao58 t172.length co58 : Value).ownBlock)) (by (with_reducible repeat (first | apply Kd.R_alloc | apply Kd.R_drewN | apply Kd.R_drew)); exact Kd.R_mono HO180.out (fun _ hk => ⟨⟨hk.1.1.2, hk.1.2⟩, hk.2⟩)) hg hat); have n4_ := Aside0.mk (hb); have n5_ := Aside0.mk (ho); clear BK133; clear HO168; clear HO174; clear HO180; clear HB; clear HO177; have BK133 := n0_; have HO168 := n1_; have HO174 := n2_; have HO180 := n3_; have HB := n4_; have HO183 := n5_; clear n0_ n1_ n2_ n3_ n4_ n5_; clear ho hb hg hat))
              go_ret
              exact ⟨_, by first | rfl | (simp [errW_none, errW_some] <;> rfl) | (simp [*, errW_none, errW_some] <;> rfl), by (with_reducible repeat (first | apply Kd.R_alloc | apply Kd.R_drewN | apply Kd.R_drew)); exact Kd.R_mono HO183.out (fun _ hk => trivial), by repeat (first | (with_reducible first | exact HB.out | apply below_alloc | apply pw_below_drewN | apply below_drew1 | refine below_set ?_ GE133.out) | exact HB.out)⟩
            · rw [if_neg c48] at H
              exact absurd H (by simp)
          · rw [if_neg c46] at H
            exact absurd H (by simp)
        · rw [if_neg c44] at H
          exact absurd H (by simp)

/-! ### spec_l03Cat: function 141 -/
def spec_l03Cat.f (l0 : List Int) (l1 : List Int) : Option (List Int) := (some (([] : List Int) : List Int)).bind fun y184 => (if y184.length + l0.length < 140737488355328 then ((some (y184 ++ l0 : List Int)).bind fun y187 => (if y187.length + l1.length < 140737488355328 then (some (y187 ++ l1)) else (none))) else (none))
set_option maxHeartbeats 8000000 in
set_option maxRecDepth 100000 in
theorem spec_l03Cat.calls (A0 : Option Addr) (c0 : Nat) (l0 : List Int) (A1 : Option Addr) (c1 : Nat) (l1 : List Int) (r : List Int) (w : World) (hr0 : Kd.C (Kd.int .u8) w A0 l0.length l0) (hc0 : l0.length ≤ c0) (hr1 : Kd.C (Kd.int .u8) w A1 l1.length l1) (hc1 : l1.length ≤ c1) (h : spec_l03Cat.f l0 l1 = some r) :
    Calls Try.prog 141 #[.slice A0 l0.length c0, .slice A1 l1.length c1] w fun e w' => ∃ v0_ : Value, e = .returned (v0_) ∧ Kd.R (Kd.int .u8) 5 w' w.heap.size (fun _ => True) v0_ r ∧ Below w.heap.size w w' := by
  have HR0 := Aside0.mk hr0
  have HC0 := Aside0.mk hc0
  clear hr0 hc0
  have HR1 := Aside0.mk hr1
  have HC1 := Aside0.mk hc1
  clear hr1 hc1
  have HB := Aside0.mk (Below.refl w.heap.size w)
  have H : ((some (([] : List Int) : List Int)).bind fun y184 => (if y184.length + l0.length < 140737488355328 then ((some (y184 ++ l0 : List Int)).bind fun y187 => (if y187.length + l1.length < 140737488355328 then (some (y187 ++ l1)) else (none))) else (none))) = some r := h
  clear h
  obtain ⟨y184, hy184⟩ : ∃ y_ : List Int, y_ = (([] : List Int)) := ⟨_, rfl⟩
  replace H : (if y184.length + l0.length < 140737488355328 then ((some (y184 ++ l0 : List Int)).bind fun y187 => (if y187.length + l1.length < 140737488355328 then (some (y187 ++ l1)) else (none))) else (none)) = some r := by first | (rw [hy184]; with_reducible exact H) | (have H2_ := (Option.bind_some _ _).symm.trans H; rw [hy184]; with_reducible exact H2_) | (have H2_ := (Option.bind_some _ _).symm.trans H; with_reducible exact H2_) | with_reducible exact H | (rw [hy184]; exact H) | exact H
  have Ny184 := Aside0.mk hy184
  clear hy184
  by_cases c3 : y184.length + l0.length < 140737488355328
  · rw [if_pos c3] at H
    have LMc3 := Aside0.mk c3
    clear c3
    obtain ⟨y187, hy187⟩ : ∃ y_ : List Int, y_ = (y184 ++ l0) := ⟨_, rfl⟩
    replace H : (if y187.length + l1.length < 140737488355328 then (some (y187 ++ l1)) else (none)) = some r := by first | (rw [hy187]; with_reducible exact H) | (have H2_ := (Option.bind_some _ _).symm.trans H; rw [hy187]; with_reducible exact H2_) | (have H2_ := (Option.bind_some _ _).symm.trans H; with_reducible exact H2_) | with_reducible exact H | (rw [hy187]; exact H) | exact H
    have Ny187 := Aside0.mk hy187
    clear hy187
    by_cases c4 : y187.length + l1.length < 140737488355328
    · rw [if_pos c4] at H
      have LMc4 := Aside0.mk c4
      clear c4
      obtain ⟨y190, hy190⟩ : ∃ y_ : List Int, y_ = (y187 ++ l1) := ⟨_, rfl⟩
      replace H : (some y190) = some r := by first | (rw [hy190]; with_reducible exact H) | (have H2_ := (Option.bind_some _ _).symm.trans H; rw [hy190]; with_reducible exact H2_) | (have H2_ := (Option.bind_some _ _).symm.trans H; with_reducible exact H2_) | with_reducible exact H | (rw [hy190]; exact H) | exact H
      have Ny190 := Aside0.mk hy190
      clear hy190
      obtain rfl := Option.some.inj H
      go_enter Try.func141, Try.ntmps141
      go_wp2_with (first | ((with_reducible refine gate_dst (N := 5) rfl ?_); refine Kd.R_lit (Kd.int .u8) _ 5 ?hg (N := 5) ?hd (xs := ([] : List Int)) (inner := []) (ok := fun _ => True) (okp := fun _ => True) ?hr ?hp (fun _ hk => hk) trivial (Below.refl _ _) (Nat.le_refl _) (by simp) ?_; (case hd => rfl); (case hg => rfl); (case hr => first | (go_simp; done) | (go_simp; rfl)); (case hp => exact (Reps.none _ _)); intro v185 w5 ho6 hb hg_ hnew_; clear hg_ hnew_; (first | rw [← Ny184.out] at ho6 | (simp only [Int.reduceToNat] at ho6; rw [← Ny184.out] at ho6)); have n0_ := Aside0.mk (Kd.R_lower ho6 (below_size (by repeat (first | (with_reducible first | exact HB.out | apply below_alloc | apply pw_below_drewN | apply below_drew1) | exact HB.out)))); have n1_ := Aside0.mk (below_step (by repeat (first | (with_reducible first | exact HB.out | apply below_alloc | apply pw_below_drewN | apply below_drew1) | exact HB.out)) hb); clear HB; have HO186 := n0_; have HB := n1_; clear n0_ n1_; clear hb ho6) | ((with_reducible refine gate_builtin (b := .append) (xs := #[.tmp 5, .tmp 6]) rfl ?_); at_builtin; refine Kd.R_append_rows (Kd.int .u8) (w0 := w) w.heap.size rfl (.tmp 5) (.tmp 6) 22 5 (.int .u8 0) 1 rfl Try.underlying22 info5 rfl (by decide) (by omega) v185 y184 l0 _ _ _ (fun _ => True) (fun _ => False) rfl rfl ?aO ?aR (fun _ _ h => h) (fun _ h => h.elim) ?aF ?aB ?aS ?aL ?_; (case aR => repeat (first | exact (Kd.C_below HR0.out HB.out) | (with_reducible refine Kd.C_alloc ?_ _) | (with_reducible refine Kd.C_drewN ?_ _) | (with_reducible refine Kd.C_drew ?_))); (case aB => exact (by repeat (first | (with_reducible first | exact HB.out | apply below_alloc | apply pw_below_drewN | apply below_drew1) | exact HB.out))); (case aF => exact (fun _ _ => trivial)); (case aO => exact (by (with_reducible repeat (first | apply Kd.R_alloc | apply Kd.R_drewN | apply Kd.R_drew)); exact HO186.out)); (case aS => exact (below_size (by repeat (first | (with_reducible first | exact HB.out | apply below_alloc | apply pw_below_drewN | apply below_drew1) | exact HB.out)))); (case aL => have := LMc3.out; omega); intro v188 w7 ho hb hg hat; rw [← Ny187.out] at ho; have n0_ := Aside0.mk (hb); have n1_ := Aside0.mk (ho); clear HB; clear HO186; have HB := n0_; have HO189 := n1_; clear n0_ n1_; clear ho hb hg hat) | ((with_reducible refine gate_builtin (b := .append) (xs := #[.tmp 7, .tmp 8]) rfl ?_); at_builtin; refine Kd.R_append_rows (Kd.int .u8) (w0 := w) w.heap.size rfl (.tmp 7) (.tmp 8) 22 5 (.int .u8 0) 1 rfl Try.underlying22 info5 rfl (by decide) (by omega) v188 y187 l1 _ _ _ (fun _ => True) (fun _ => False) rfl rfl ?aO ?aR (fun _ _ h => h) (fun _ h => h.elim) ?aF ?aB ?aS ?aL ?_; (case aR => repeat (first | exact (Kd.C_below HR1.out HB.out) | (with_reducible refine Kd.C_alloc ?_ _) | (with_reducible refine Kd.C_drewN ?_ _) | (with_reducible refine Kd.C_drew ?_))); (case aB => exact (by repeat (first | (with_reducible first | exact HB.out | apply below_alloc | apply pw_below_drewN | apply below_drew1) | exact HB.out))); (case aF => exact (fun _ _ => trivial)); (case aO => exact (by (with_reducible repeat (first | apply Kd.R_alloc | apply Kd.R_drewN | apply Kd.R_drew)); exact HO189.out)); (case aS => exact (below_size (by repeat (first | (with_reducible first | exact HB.out | apply below_alloc | apply pw_below_drewN | apply below_drew1) | exact HB.out)))); (case aL => have := LMc4.out; omega); intro v191 w8 ho hb hg hat; rw [← Ny190.out] at ho; have n0_ := Aside0.mk (hb); have n1_ := Aside0.mk (ho); clear HB; clear HO189; have HB := n0_; have HO192 := n1_; clear n0_ n1_; clear ho hb hg hat))
      go_ret
      exact ⟨_, by first | rfl | (simp [errW_none, errW_some] <;> rfl) | (simp [*, errW_none, errW_some] <;> rfl), by (with_reducible repeat (first | apply Kd.R_alloc | apply Kd.R_drewN | apply Kd.R_drew)); exact HO192.out, by repeat (first | (with_reducible first | exact HB.out | apply below_alloc | apply pw_below_drewN | apply below_drew1) | exact HB.out)⟩
    · rw [if_neg c4] at H
      exact absurd H (by simp)
  · rw [if_neg c3] at H
    exact absurd H (by simp)

end Go.Proofs.Ytolpikjbdfpdcaa.PFnExactTokenMake
