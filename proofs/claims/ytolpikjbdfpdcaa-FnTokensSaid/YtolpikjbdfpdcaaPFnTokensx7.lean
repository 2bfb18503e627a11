-- Written by a program of this repo (xprint.py) out of the translation; Lean checks it. SHRUNK
import Derived.Test.YtolpikjbdfpdcaaPFnTokensx0
import Derived.Test.YtolpikjbdfpdcaaPFnTokensx4
import Derived.Test.YtolpikjbdfpdcaaPFnTokensx5
import Derived.Test.YtolpikjbdfpdcaaPFnTokensx6
namespace Go.Proofs.Ytolpikjbdfpdcaa.PFnTokens
open Go.RowKit Go.Proofs.YtolpikjbdfpdcaaW.PrintWords Go.Proofs.YtolpikjbdfpdcaaW.PrintLast Go.Proofs.YtolpikjbdfpdcaaW.PrintMore
attribute [local go_sem] max2_int min2_int max_two min_two max_three min_three max_four min_four   -- for this text's walks alone
set_option linter.unusedVariables false
set_option linter.unusedSimpArgs false

/-! ### impl_tagOf: function 91 -/
def impl_tagOf.f (k : Nat) (l0_0 : List Int) (l0_1 : List Int) (l0_2 : List Int) (l0_3 : List Int) (l1 : List Int) (l2 : List Int) (l3 : List Int) : Option (List Int) := (some (([] : List Int) : List Int)).bind fun y335 => (if y335.length + l1.length < 140737488355328 then ((some (y335 ++ l1 : List Int)).bind fun y338 => ((some (([255, 255, 255, 255] : List Int) : List Int)).bind fun y341 => (if y338.length + y341.length < 140737488355328 then ((impl_fixed.f k (y338 ++ y341) (l2.length : Int) 4).bind fun t347 => (if t347.length + l2.length < 140737488355328 then ((some (t347 ++ l2 : List Int)).bind fun y350 => (if y350.length + l3.length < 140737488355328 then ((impl_digest.f k l0_1 (y350 ++ l3)).bind fun t356 => (if 8 ≤ (t356.length : Int) then (some (t356.take (8 : Int).toNat)) else (none))) else (none))) else (none))) else (none)))) else (none))
theorem impl_tagOf.mono : ∀ a0 a1 a2 a3 a4 a5 a6 k, LeO (impl_tagOf.f k a0 a1 a2 a3 a4 a5 a6) (impl_tagOf.f (k + 1) a0 a1 a2 a3 a4 a5 a6) := by
  intro a0 a1 a2 a3 a4 a5 a6 k
  unfold impl_tagOf.f
  repeat' first
      | (with_reducible exact impl_digest.mono _ _ _)
      | (with_reducible exact impl_fixed.mono _ _ _ _)
      | (with_reducible exact LeO.refl _)
      | (with_reducible exact LeO.none _)
      | (with_reducible refine LeO.ite ?_ ?_)
      | (with_reducible refine LeO.bind ?_ (fun _ => ?_))
      | exact impl_digest.mono _ _ _
      | exact impl_fixed.mono _ _ _ _
      | exact LeO.none _
      | refine LeO.ite ?_ ?_
      | refine LeO.bind ?_ (fun _ => ?_)
def impl_tagOf.T5 : Bool × List (List Nat × List Nat) := (true, [([], []), ([0], [0]), ([], []), ([], []), ([2, 3], [2, 3]), ([1, 4, 4], [1, 4]), ([5], [5]), ([6, 5, 0, 1, 2, 3, 4, 5, 6], [6])])
def impl_tagOf.B5 : List Nat := [0, 1, 0, 0, 12, 31, 63, 127]
theorem impl_tagOf.tab5 : rtab .any (opsOf Try.f91 5) = impl_tagOf.T5 := by kernel_rfl
theorem impl_tagOf.bits5 : waitsOk impl_tagOf.T5.2 impl_tagOf.B5 = true := by kernel_rfl
set_option maxHeartbeats 8000000 in
set_option maxRecDepth 100000 in
theorem impl_tagOf.calls (k : Nat) (A0_0 : Option Addr) (c0_0 : Nat) (l0_0 : List Int) (A0_1 : Option Addr) (c0_1 : Nat) (l0_1 : List Int) (A0_2 : Option Addr) (c0_2 : Nat) (l0_2 : List Int) (A0_3 : Option Addr) (c0_3 : Nat) (l0_3 : List Int) (A1 : Option Addr) (c1 : Nat) (l1 : List Int) (A2 : Option Addr) (c2 : Nat) (l2 : List Int) (A3 : Option Addr) (c3 : Nat) (l3 : List Int) (r : List Int) (w : World) (hr0_0 : Kd.C (Kd.int .u8) w A0_0 l0_0.length l0_0) (hc0_0 : l0_0.length ≤ c0_0) (hr0_1 : Kd.C (Kd.int .u8) w A0_1 l0_1.length l0_1) (hc0_1 : l0_1.length ≤ c0_1) (hr0_2 : Kd.C (Kd.int .u8) w A0_2 l0_2.length l0_2) (hc0_2 : l0_2.length ≤ c0_2) (hr0_3 : Kd.C (Kd.int .u8) w A0_3 l0_3.length l0_3) (hc0_3 : l0_3.length ≤ c0_3) (hr1 : Kd.C (Kd.int .u8) w A1 l1.length l1) (hc1 : l1.length ≤ c1) (hr2 : Kd.C (Kd.int .u8) w A2 l2.length l2) (hc2 : l2.length ≤ c2) (hr3 : Kd.C (Kd.int .u8) w A3 l3.length l3) (hc3 : l3.length ≤ c3) (h : impl_tagOf.f k l0_0 l0_1 l0_2 l0_3 l1 l2 l3 = some r) :
    Calls Try.prog 91 #[.agg #[.slice A0_0 l0_0.length c0_0, .slice A0_1 l0_1.length c0_1, .slice A0_2 l0_2.length c0_2, .slice A0_3 l0_3.length c0_3], .slice A1 l1.length c1, .slice A2 l2.length c2, .slice A3 l3.length c3] w fun e w' => ∃ v0_ : Value, e = .returned (v0_) ∧ Kd.R (Kd.int .u8) 5 w' w.heap.size (fun _ => True) v0_ r ∧ Below w.heap.size w w' := by
  have hu24 := Try.underlying24
  have HR0_0 := Aside0.mk hr0_0
  have HC0_0 := Aside0.mk hc0_0
  clear hr0_0 hc0_0
  have HR0_1 := Aside0.mk hr0_1
  have HC0_1 := Aside0.mk hc0_1
  clear hr0_1 hc0_1
  have HR0_2 := Aside0.mk hr0_2
  have HC0_2 := Aside0.mk hc0_2
  clear hr0_2 hc0_2
  have HR0_3 := Aside0.mk hr0_3
  have HC0_3 := Aside0.mk hc0_3
  clear hr0_3 hc0_3
  have HR1 := Aside0.mk hr1
  have HC1 := Aside0.mk hc1
  clear hr1 hc1
  have HR2 := Aside0.mk hr2
  have HC2 := Aside0.mk hc2
  clear hr2 hc2
  have HR3 := Aside0.mk hr3
  have HC3 := Aside0.mk hc3
  clear hr3 hc3
  have HB := Aside0.mk (Below.refl w.heap.size w)
  have H : ((some (([] : List Int) : List Int)).bind fun y335 => (if y335.length + l1.length < 140737488355328 then ((some (y335 ++ l1 : List Int)).bind fun y338 => ((some (([255, 255, 255, 255] : List Int) : List Int)).bind fun y341 => (if y338.length + y341.length < 140737488355328 then ((impl_fixed.f k (y338 ++ y341) (l2.length : Int) 4).bind fun t347 => (if t347.length + l2.length < 140737488355328 then ((some (t347 ++ l2 : List Int)).bind fun y350 => (if y350.length + l3.length < 140737488355328 then ((impl_digest.f k l0_1 (y350 ++ l3)).bind fun t356 => (if 8 ≤ (t356.length : Int) then (some (t356.take (8 : Int).toNat)) else (none))) else (none))) else (none))) else (none)))) else (none))) = some r := h
  clear h
  obtain ⟨y335, hy335⟩ : ∃ y_ : List Int, y_ = (([] : List Int)) := ⟨_, rfl⟩
  replace H : (if y335.length + l1.length < 140737488355328 then ((some (y335 ++ l1 : List Int)).bind fun y338 => ((some (([255, 255, 255, 255] : List Int) : List Int)).bind fun y341 => (if y338.length + y341.length < 140737488355328 then ((impl_fixed.f k (y338 ++ y341) (l2.length : Int) 4).bind fun t347 => (if t347.length + l2.length < 140737488355328 then ((some (t347 ++ l2 : List Int)).bind fun y350 => (if y350.length + l3.length < 140737488355328 then ((impl_digest.f k l0_1 (y350 ++ l3)).bind fun t356 => (if 8 ≤ (t356.length : Int) then (some (t356.take (8 : Int).toNat)) else (none))) else (none))) else (none))) else (none)))) else (none)) = some r := by first | (rw [hy335]; with_reducible exact H) | (have H2_ := (Option.bind_some _ _).symm.trans H; rw [hy335]; with_reducible exact H2_) | (have H2_ := (Option.bind_some _ _).symm.trans H; with_reducible exact H2_) | with_reducible exact H | (rw [hy335]; exact H) | exact H
  have Ny335 := Aside0.mk hy335
  clear hy335
  by_cases c5 : y335.length + l1.length < 140737488355328
  · rw [if_pos c5] at H
    have LMc5 := Aside0.mk c5
    clear c5
    obtain ⟨y338, hy338⟩ : ∃ y_ : List Int, y_ = (y335 ++ l1) := ⟨_, rfl⟩
    replace H : ((some (([255, 255, 255, 255] : List Int) : List Int)).bind fun y341 => (if y338.length + y341.length < 140737488355328 then ((impl_fixed.f k (y338 ++ y341) (l2.length : Int) 4).bind fun t347 => (if t347.length + l2.length < 140737488355328 then ((some (t347 ++ l2 : List Int)).bind fun y350 => (if y350.length + l3.length < 140737488355328 then ((impl_digest.f k l0_1 (y350 ++ l3)).bind fun t356 => (if 8 ≤ (t356.length : Int) then (some (t356.take (8 : Int).toNat)) else (none))) else (none))) else (none))) else (none))) = some r := by first | (rw [hy338]; with_reducible exact H) | (have H2_ := (Option.bind_some _ _).symm.trans H; rw [hy338]; with_reducible exact H2_) | (have H2_ := (Option.bind_some _ _).symm.trans H; with_reducible exact H2_) | with_reducible exact H | (rw [hy338]; exact H) | exact H
    have Ny338 := Aside0.mk hy338
    clear hy338
    obtain ⟨y341, hy341⟩ : ∃ y_ : List Int, y_ = (([255, 255, 255, 255] : List Int)) := ⟨_, rfl⟩
    replace H : (if y338.length + y341.length < 140737488355328 then ((impl_fixed.f k (y338 ++ y341) (l2.length : Int) 4).bind fun t347 => (if t347.length + l2.length < 140737488355328 then ((some (t347 ++ l2 : List Int)).bind fun y350 => (if y350.length + l3.length < 140737488355328 then ((impl_digest.f k l0_1 (y350 ++ l3)).bind fun t356 => (if 8 ≤ (t356.length : Int) then (some (t356.take (8 : Int).toNat)) else (none))) else (none))) else (none))) else (none)) = some r := by first | (rw [hy341]; with_reducible exact H) | (have H2_ := (Option.bind_some _ _).symm.trans H; rw [hy341]; with_reducible exact H2_) | (have H2_ := (Option.bind_some _ _).symm.trans H; with_reducible exact H2_) | with_reducible exact H | (rw [hy341]; exact H) | exact H
    have Ny341 := Aside0.mk hy341
    clear hy341
    by_cases c6 : y338.length + y341.length < 140737488355328
    · rw [if_pos c6] at H
      have LMc6 := Aside0.mk c6
      clear c6
      obtain ⟨y344, hy344⟩ : ∃ y_ : List Int, y_ = (y338 ++ y341) := ⟨_, rfl⟩
      replace H : ((impl_fixed.f k y344 (l2.length : Int) 4).bind fun t347 => (if t347.length + l2.length < 140737488355328 then ((some (t347 ++ l2 : List Int)).bind fun y350 => (if y350.length + l3.length < 140737488355328 then ((impl_digest.f k l0_1 (y350 ++ l3)).bind fun t356 => (if 8 ≤ (t356.length : Int) then (some (t356.take (8 : Int).toNat)) else (none))) else (none))) else (none))) = some r := by first | (rw [hy344]; with_reducible exact H) | (have H2_ := (Option.bind_some _ _).symm.trans H; rw [hy344]; with_reducible exact H2_) | (have H2_ := (Option.bind_some _ _).symm.trans H; with_reducible exact H2_) | with_reducible exact H | (rw [hy344]; exact H) | exact H
      have Ny344 := Aside0.mk hy344
      clear hy344
      replace H := Option.bind_eq_some_iff.mp H
      obtain ⟨t347, A70, H⟩ := H
      replace H : (if t347.length + l2.length < 140737488355328 then ((some (t347 ++ l2 : List Int)).bind fun y350 => (if y350.length + l3.length < 140737488355328 then ((impl_digest.f k l0_1 (y350 ++ l3)).bind fun t356 => (if 8 ≤ (t356.length : Int) then (some (t356.take (8 : Int).toNat)) else (none))) else (none))) else (none)) = some r := H
      have A7 := Aside0.mk A70
      clear A70
      by_cases c8 : t347.length + l2.length < 140737488355328
      · rw [if_pos c8] at H
        have LMc8 := Aside0.mk c8
        clear c8
        obtain ⟨y350, hy350⟩ : ∃ y_ : List Int, y_ = (t347 ++ l2) := ⟨_, rfl⟩
        replace H : (if y350.length + l3.length < 140737488355328 then ((impl_digest.f k l0_1 (y350 ++ l3)).bind fun t356 => (if 8 ≤ (t356.length : Int) then (some (t356.take (8 : Int).toNat)) else (none))) else (none)) = some r := by first | (rw [hy350]; with_reducible exact H) | (have H2_ := (Option.bind_some _ _).symm.trans H; rw [hy350]; with_reducible exact H2_) | (have H2_ := (Option.bind_some _ _).symm.trans H; with_reducible exact H2_) | with_reducible exact H | (rw [hy350]; exact H) | exact H
        have Ny350 := Aside0.mk hy350
        clear hy350
        by_cases c9 : y350.length + l3.length < 140737488355328
        · rw [if_pos c9] at H
          have LMc9 := Aside0.mk c9
          clear c9
          obtain ⟨y353, hy353⟩ : ∃ y_ : List Int, y_ = (y350 ++ l3) := ⟨_, rfl⟩
          replace H : ((impl_digest.f k l0_1 y353).bind fun t356 => (if 8 ≤ (t356.length : Int) then (some (t356.take (8 : Int).toNat)) else (none))) = some r := by first | (rw [hy353]; with_reducible exact H) | (have H2_ := (Option.bind_some _ _).symm.trans H; rw [hy353]; with_reducible exact H2_) | (have H2_ := (Option.bind_some _ _).symm.trans H; with_reducible exact H2_) | with_reducible exact H | (rw [hy353]; exact H) | exact H
          have Ny353 := Aside0.mk hy353
          clear hy353
          replace H := Option.bind_eq_some_iff.mp H
          obtain ⟨t356, A100, H⟩ := H
          replace H : (if 8 ≤ (t356.length : Int) then (some (t356.take (8 : Int).toNat)) else (none)) = some r := H
          have A10 := Aside0.mk A100
          clear A100
          by_cases c11 : 8 ≤ (t356.length : Int)
          · rw [if_pos c11] at H
            have c11b0 := eq_true c11
            have c11b1 : decide (8 ≤ (t356.length : Int)) = true := decide_eq_true c11
            clear c11
            obtain ⟨y359, hy359⟩ : ∃ y_ : List Int, y_ = (t356.take (8 : Int).toNat) := ⟨_, rfl⟩
            replace H : (some y359) = some r := by first | (rw [hy359]; with_reducible exact H) | (have H2_ := (Option.bind_some _ _).symm.trans H; rw [hy359]; with_reducible exact H2_) | (have H2_ := (Option.bind_some _ _).symm.trans H; with_reducible exact H2_) | with_reducible exact H | (rw [hy359]; exact H) | exact H
            have Ny359 := Aside0.mk hy359
            clear hy359
            obtain rfl := Option.some.inj H
            go_enter Try.func91, Try.ntmps91
            try go_wp2_with (first | ((with_reducible refine gate_dst (N := 4) rfl ?_); refine box_event ?hg (N := 4) ?hd (cs := #[.slice A0_0 l0_0.length c0_0, .slice A0_1 l0_1.length c0_1, .slice A0_2 l0_2.length c0_2, .slice A0_3 l0_3.length c0_3]) (t := 24) ?hr ?_; (case hd => rfl); (case hg => rfl); (case hr => first | (go_simp; done) | (go_simp; rfl)); intro gb334 hg w12 hbox hb; have n0_ := Aside0.mk (below_step (hq HB.out) hb); have n1_ := Aside0.mk (hbox); have n2_ := Aside0.mk ((by rw [hg]; exact (below_size (hq HB.out)) : w.heap.size ≤ gb334)); have n3_ := Aside0.mk ((by rw [hg]; exact (below_size (hq HB.out)) : w.heap.size ≤ gb334)); clear HB; have HB := n0_; have BK334 := n1_; have GW334 := n2_; have GE334 := n3_; clear n0_ n1_ n2_ n3_; clear hb hbox hg) | ((with_reducible refine gate_dst (N := 10) rfl ?_); refine Kd.R_lit (Kd.int .u8) _ 5 ?hg (N := 10) ?hd (xs := ([] : List Int)) (inner := []) (ok := fun _ => True) (okp := fun _ => True) ?hr ?hp (fun _ hk => hk) trivial (Below.refl _ _) (Nat.le_refl _) (by simp) ?_; (case hd => rfl); (case hg => rfl); (case hr => first | (go_simp; done) | (go_simp; rfl)); (case hp => exact (Reps.none _ _)); intro v336 w13 ho14 hb hg_ hnew_; clear hg_ hnew_; (first | rw [← Ny335.out] at ho14 | (simp only [Int.reduceToNat] at ho14; rw [← Ny335.out] at ho14)); have n0_ := Aside0.mk (Kd.R_lower ho14 (below_size (by repeat (first | (with_reducible first | exact HB.out | apply below_alloc | apply pw_below_drewN | apply below_drew1 | refine below_set ?_ GE334.out) | exact HB.out)))); have n1_ := Aside0.mk (blk_below (bq BK334.out) hb); have n2_ := Aside0.mk (below_step (by repeat (first | (with_reducible first | exact HB.out | apply below_alloc | apply pw_below_drewN | apply below_drew1 | refine below_set ?_ GE334.out) | exact HB.out)) hb); clear BK334; clear HB; have HO337 := n0_; have BK334 := n1_; have HB := n2_; clear n0_ n1_ n2_; clear hb ho14) | ((with_reducible refine gate_builtin (b := .append) (xs := #[.tmp 10, .tmp 11]) rfl ?_); at_builtin; refine Kd.R_append_rows (Kd.int .u8) (w0 := w) w.heap.size rfl (.tmp 10) (.tmp 11) 22 5 (.int .u8 0) 1 rfl Try.underlying22 info5 rfl (by decide) (by omega) v336 y335 l1 _ _ _ (fun _ => True) (fun _ => False) rfl rfl ?aO ?aR (fun _ _ h => h) (fun _ h => h.elim) ?aF ?aB ?aS ?aL ?_; (case aR => repeat (first | exact (Kd.C_below HR1.out HB.out) | (with_reducible refine Kd.C_alloc ?_ _) | (with_reducible refine Kd.C_drewN ?_ _) | (with_reducible refine Kd.C_drew ?_))); (case aB => exact (by repeat (first | (with_reducible first | exact HB.out | apply below_alloc | apply pw_below_drewN | apply below_drew1 | refine below_set ?_ GE334.out) | exact HB.out))); (case aF => exact (fun _ _ => trivial)); (case aO => exact (rq HO337.out)); (case aS => exact (below_size (by repeat (first | (with_reducible first | exact HB.out | apply below_alloc | apply pw_below_drewN | apply below_drew1 | refine below_set ?_ GE334.out) | exact HB.out)))); (case aL => have := LMc5.out; omega); intro v339 w15 ho hb hg hat; rw [← Ny338.out] at ho; have n0_ := Aside0.mk (blk_grown (g := gb334) (o := .cells #[.slice A0_0 l0_0.length c0_0, .slice A0_1 l0_1.length c0_1, .slice A0_2 l0_2.length c0_2, .slice A0_3 l0_3.length c0_3] 24 (0, 0)) (bq BK334.out) hg (Kd.R_ne HO337.out BK334.out (by decide))); have n1_ := Aside0.mk (hb); have n2_ := Aside0.mk (ho); clear BK334; clear HB; clear HO337; have BK334 := n0_; have HB := n1_; have HO340 := n2_; clear n0_ n1_ n2_; clear ho hb hg hat) | ((with_reducible refine gate_dst (N := 14) rfl ?_); refine Kd.R_lit (Kd.int .u8) _ 5 ?hg (N := 14) ?hd (xs := ([255, 255, 255, 255] : List Int)) (inner := [.int .u8 255, .int .u8 255, .int .u8 255, .int .u8 255]) (ok := fun _ => True) (okp := fun _ => True) ?hr ?hp (fun _ hk => hk) trivial (Below.refl _ _) (Nat.le_refl _) (by simp) ?_; (case hd => rfl); (case hg => rfl); (case hr => first | (go_simp; done) | (go_simp; rfl)); (case hp => exact (Reps.one (show Kd.M (Kd.int .u8) _ _ _ 255 [.int .u8 255] from rfl) (Reps.one (show Kd.M (Kd.int .u8) _ _ _ 255 [.int .u8 255] from rfl) (Reps.one (show Kd.M (Kd.int .u8) _ _ _ 255 [.int .u8 255] from rfl) (Reps.one (show Kd.M (Kd.int .u8) _ _ _ 255 [.int .u8 255] from rfl) (Reps.none _ _)))))); intro v342 w16 ho17 hb hg_ hnew_; clear hg_ hnew_; (first | rw [← Ny341.out] at ho17 | (simp only [Int.reduceToNat] at ho17; rw [← Ny341.out] at ho17)); have n0_ := Aside0.mk (Kd.R_elder' (rq HO340.out) (Kd.R_base ho17) hb); have n1_ := Aside0.mk (Kd.R_lower (Kd.R_new' ho17 (Kd.R_lt (rq HO340.out))) (below_size (by repeat (first | (with_reducible first | exact HB.out | apply below_alloc | apply pw_below_drewN | apply below_drew1 | refine below_set ?_ GE334.out) | exact HB.out)))); have n2_ := Aside0.mk (blk_below (bq BK334.out) hb); have n3_ := Aside0.mk (below_step (by repeat (first | (with_reducible first | exact HB.out | apply below_alloc | apply pw_below_drewN | apply below_drew1 | refine below_set ?_ GE334.out) | exact HB.out)) hb); clear HO340; clear BK334; clear HB; have HO340 := n0_; have HO343 := n1_; have BK334 := n2_; have HB := n3_; clear n0_ n1_ n2_ n3_; clear hb ho17; obtain ⟨Ao19, co19, eo19⟩ := Kd.R_slice HO343.out; subst eo19) | ((with_reducible refine gate_builtin (b := .append) (xs := #[.tmp 13, .tmp 14]) rfl ?_); at_builtin; refine Kd.R_append_rows (Kd.int .u8) (w0 := w) w.heap.size rfl (.tmp 13) (.tmp 14) 22 5 (.int .u8 0) 1 rfl Try.underlying22 info5 rfl (by decide) (by omega) v339 y338 y341 _ _ _ (fun k_ => some k_ ≠ (.slice Ao19 y341.length co19 : Value).ownBlock) (fun _ => False) rfl rfl ?aO ?aR (fun _ _ h => h) (fun _ h => h.elim) ?aF ?aB ?aS ?aL ?_; (case aR => repeat (first | exact (Kd.R_reads' HO343.out).2.2 | (with_reducible refine Kd.C_alloc ?_ _) | (with_reducible refine Kd.C_drewN ?_ _) | (with_reducible refine Kd.C_drew ?_))); (case aB => exact (by repeat (first | (with_reducible first | exact HB.out | apply below_alloc | apply pw_below_drewN | apply below_drew1 | refine below_set ?_ GE334.out) | exact HB.out))); (case aF => exact (fun k_ hk => Kd.fresh' (Kd.R_lt (rq HO343.out)) k_ hk)); (case aO => exact (rq (Kd.R_mono HO340.out (fun _ hk => hk.2)))); (case aS => exact (below_size (by repeat (first | (with_reducible first | exact HB.out | apply below_alloc | apply pw_below_drewN | apply below_drew1 | refine below_set ?_ GE334.out) | exact HB.out)))); (case aL => have := LMc6.out; omega); intro v345 w18 ho hb hg hat; rw [← Ny344.out] at ho; have n0_ := Aside0.mk (blk_grown (g := gb334) (o := .cells #[.slice A0_0 l0_0.length c0_0, .slice A0_1 l0_1.length c0_1, .slice A0_2 l0_2.length c0_2, .slice A0_3 l0_3.length c0_3] 24 (0, 0)) (bq BK334.out) hg (Kd.R_ne HO340.out BK334.out (by decide))); have n1_ := Aside0.mk (Kd.R_after (ok := (fun _ => True)) (rq HO343.out) hg hat); have n2_ := Aside0.mk (hb); have n3_ := Aside0.mk (ho); clear BK334; clear HO343; clear HB; clear HO340; have BK334 := n0_; have HO343 := n1_; have HB := n2_; have HO346 := n3_; clear n0_ n1_ n2_ n3_; clear ho hb hg hat; obtain ⟨Ao20, co20, eo20⟩ := Kd.R_slice HO346.out; subst eo20) | ((with_reducible refine gate_callee (f := 72) rfl ?_); refine goesL_ (some 19) rfl rfl Try.func72 (by kernel_rfl) rfl #[.slice Ao20 y344.length co20, .int .i64 (l2.length : Int), .int .i64 4] rfl (by (try simp only [List.map_toArray, List.map_cons, List.map_nil]); first | done | rfl | (simp only [List.length_drop, List.length_take]; rfl)) ?_; (with_reducible refine (impl_fixed.calls k (fun k_ => some k_ = (.slice Ao20 y344.length co20 : Value).ownBlock) (.slice Ao20 y344.length co20) y344 (l2.length : Int) 4 t347 w _ ?side1 ?side2 A7.out).mono ?_); (case side1 => repeat (first | (with_reducible first | exact HB.out | apply below_alloc | apply pw_below_drewN | apply below_drew1 | refine below_set ?_ GE334.out) | exact HB.out)); (case side2 => exact Kd.R_tight rfl HO346.out); rintro e w21 ⟨v348, rfl, ho0, hb, hkp⟩; refine ⟨_, rfl, ?_⟩; have n0_ := Aside0.mk (blk_kept (bq BK334.out) hkp (fun hs_ => (fun e_ => (Kd.R_ne HO346.out BK334.out (by decide)) e_) hs_)); have n1_ := Aside0.mk (Kd.R_mono (ok' := fun k_ => some k_ ≠ (v348 : Value).ownBlock) (Kd.R_keptB (HO343.out) hkp (fun k_ hk_ hs_ => (hk_.2) hs_)) (fun k_ hk_ => fun e_ => Or.elim (ho0.1 k_ e_.symm) (fun hs_ => hk_.2.1 hs_) (fun hn_ => Nat.not_le.2 hk_.2.2 hn_))); have n2_ := Aside0.mk (Kd.R_mono (ok' := fun k_ => some k_ ≠ (.slice Ao19 y341.length co19 : Value).ownBlock) ho0 (fun k_ hk_ => Or.elim hk_ (fun hs_ => fun e_ => (((HO343.out).1 k_ e_.symm).2) hs_) (fun hn_ => (Kd.fresh' (Kd.R_lt (rq HO343.out)) k_ hn_)))); have n3_ := Aside0.mk (hb); clear BK334; clear HO343; clear HB; clear HO346; have BK334 := n0_; have HO343 := n1_; have HO349 := n2_; have HB := n3_; clear n0_ n1_ n2_ n3_; (try clear hb); (try clear hkp); (try clear ho0)) | ((with_reducible refine gate_builtin (b := .append) (xs := #[.tmp 20, .tmp 21]) rfl ?_); at_builtin; refine Kd.R_append_rows (Kd.int .u8) (w0 := w) w.heap.size rfl (.tmp 20) (.tmp 21) 22 5 (.int .u8 0) 1 rfl Try.underlying22 info5 rfl (by decide) (by omega) v348 t347 l2 _ _ _ (fun k_ => some k_ ≠ (.slice Ao19 y341.length co19 : Value).ownBlock) (fun _ => False) rfl rfl ?aO ?aR (fun _ _ h => h) (fun _ h => h.elim) ?aF ?aB ?aS ?aL ?_; (case aR => repeat (first | exact (Kd.C_below HR2.out HB.out) | (with_reducible refine Kd.C_alloc ?_ _) | (with_reducible refine Kd.C_drewN ?_ _) | (with_reducible refine Kd.C_drew ?_))); (case aB => exact (by repeat (first | (with_reducible first | exact HB.out | apply below_alloc | apply pw_below_drewN | apply below_drew1 | refine below_set ?_ GE334.out) | exact HB.out))); (case aF => exact (fun k_ hk => Kd.fresh' (Kd.R_lt (rq HO343.out)) k_ hk)); (case aO => exact (rq HO349.out)); (case aS => exact (below_size (by repeat (first | (with_reducible first | exact HB.out | apply below_alloc | apply pw_below_drewN | apply below_drew1 | refine below_set ?_ GE334.out) | exact HB.out)))); (case aL => have := LMc8.out; omega); intro v351 w22 ho hb hg hat; rw [← Ny350.out] at ho; have n0_ := Aside0.mk (blk_grown (g := gb334) (o := .cells #[.slice A0_0 l0_0.length c0_0, .slice A0_1 l0_1.length c0_1, .slice A0_2 l0_2.length c0_2, .slice A0_3 l0_3.length c0_3] 24 (0, 0)) (bq BK334.out) hg (Kd.R_ne HO349.out BK334.out (by decide))); have n1_ := Aside0.mk (Kd.R_after (ok := (fun _ => True)) (rq (Kd.R_mono HO343.out (fun _ hk => ⟨trivial, hk⟩))) hg hat); have n2_ := Aside0.mk (hb); have n3_ := Aside0.mk (ho); clear BK334; clear HO343; clear HB; clear HO349; have BK334 := n0_; have HO343 := n1_; have HB := n2_; have HO352 := n3_; clear n0_ n1_ n2_ n3_; clear ho hb hg hat))
            have n0_ := Aside0.mk (Kd.R_drew HO343.out)
            have n1_ := Aside0.mk (Kd.R_drew HO352.out)
            have n2_ := Aside0.mk (blk_drew BK334.out)
            have n3_ := Aside0.mk (below_drew1 HB.out)
            clear HO343
            clear HO352
            clear BK334
            clear HB
            have HO343 := n0_
            have HO352 := n1_
            have BK334 := n2_
            have HB := n3_
            clear n0_ n1_ n2_ n3_
            refine start_ (n := 8) (S := fun w' => w'.cell? ⟨gb334, 0, none⟩ = some (.slice A0_0 l0_0.length c0_0) ∧ w'.cell? ⟨gb334, 1, none⟩ = some (.slice A0_1 l0_1.length c0_1) ∧ w'.cell? ⟨gb334, 2, none⟩ = some (.slice A0_2 l0_2.length c0_2) ∧ w'.cell? ⟨gb334, 3, none⟩ = some (.slice A0_3 l0_3.length c0_3)) (ds := []) #[false, false, false, false, false, false, false, false] (by kernel_rfl) rfl rfl ⟨(blk_cell BK334.out 0).trans rfl, (blk_cell BK334.out 1).trans rfl, (blk_cell BK334.out 2).trans rfl, (blk_cell BK334.out 3).trans rfl⟩ (fun hHeld => ?_); refine with_tabW impl_tagOf.tab5 impl_tagOf.bits5 (fun HT_ HW_ => ?_)
            generalize w22.drew = w23 at HO343 HO352 BK334 HB hHeld ⊢
            refine pure_ (i := 0) (N := some 23) (v := ?_) (a' := ?_) #[true, false, false, false, false, false, false, false] rfl rfl (any_of HT_.out (by kernel_rfl)) (fun _ _ _ h => h) (Or.inl ⟨by rfl, ?_⟩) ?_ ?_
            rotate_left
            · intro w'
              go_simp
              with_reducible rfl
            rotate_left
            · simp only [Act.put, List.setIfInBounds_toArray, List.set_cons_zero, List.set_cons_succ, i64_w, i32_w]
              rfl
            refine pure_ (i := 2) (N := some 25) (v := ?_) (a' := ?_) #[true, false, true, false, false, false, false, false] rfl rfl (any_of HT_.out (by kernel_rfl)) (fun _ _ _ h => h) (Or.inl ⟨by rfl, ?_⟩) ?_ ?_
            rotate_left
            · intro w'
              go_simp
              with_reducible rfl
            rotate_left
            · simp only [Act.put, List.setIfInBounds_toArray, List.set_cons_zero, List.set_cons_succ, i64_w, i32_w]
              rfl
            refine pure_ (i := 3) (N := some 26) (v := ?_) (a' := ?_) #[true, false, true, true, false, false, false, false] rfl rfl (any_of HT_.out (by kernel_rfl)) (fun _ _ _ h => h) (Or.inl ⟨by rfl, ?_⟩) ?_ ?_
            rotate_left
            · intro w'
              go_simp
              with_reducible rfl
            rotate_left
            · simp only [Act.put, List.setIfInBounds_toArray, List.set_cons_zero, List.set_cons_succ, i64_w, i32_w]
              rfl
            refine take_ (i := 1) (N := some 24) (v := ?_) (a' := ?_) #[true, true, true, true, false, false, false, false] rfl rfl (take_ofW HT_.out HW_.out (by kernel_rfl)) (fun _ _ _ h => h) (Or.inl ⟨by rfl, ?_⟩) hHeld ?_ ?_
            rotate_left
            · rintro w' ⟨s0, s1, s2, s3⟩
              go_simp
              with_reducible rfl
            rotate_left
            · simp only [Act.put, List.setIfInBounds_toArray, List.set_cons_zero, List.set_cons_succ, i64_w, i32_w]
              rfl
            refine one_ (i := 4) (N := some 27) #[true, true, true, true, true, false, false, false] rfl rfl (one_of HT_.out (by kernel_rfl)) (by decide) (fun K hK => ?_)
            refine Kd.R_append_rows_step (Kd.int .u8) (w0 := w) w.heap.size (by rfl) (.tmp 25) (.tmp 26) 22 5 (.int .u8 0) 1 rfl Try.underlying22 info5 rfl (by decide) (by omega) v351 y350 l3 _ _ _ (fun k_ => some k_ ≠ (.slice Ao19 y341.length co19 : Value).ownBlock) (fun _ => False) rfl rfl ?aO ?aR (fun _ _ h => h) (fun _ h => h.elim) ?aF ?aB ?aS ?aL ?_
            (case aR => repeat (first | exact (Kd.C_below HR3.out HB.out) | (with_reducible refine Kd.C_alloc ?_ _) | (with_reducible refine Kd.C_drewN ?_ _) | (with_reducible refine Kd.C_drew ?_)))
            (case aB => exact (by repeat (first | (with_reducible first | exact HB.out | apply below_alloc | apply pw_below_drewN | apply below_drew1 | refine below_set ?_ GE334.out) | exact HB.out)))
            (case aF => exact (fun k_ hk => Kd.fresh' (Kd.R_lt (rq HO343.out)) k_ hk))
            (case aO => exact (rq HO352.out))
            (case aS => exact (below_size (by repeat (first | (with_reducible first | exact HB.out | apply below_alloc | apply pw_below_drewN | apply below_drew1 | refine below_set ?_ GE334.out) | exact HB.out))))
            (case aL => have := LMc9.out; omega)
            intro v354 w24 ho hb hg hat
            rw [← Ny353.out] at ho
            have n0_ := Aside0.mk (blk_grown (g := gb334) (o := .cells #[.slice A0_0 l0_0.length c0_0, .slice A0_1 l0_1.length c0_1, .slice A0_2 l0_2.length c0_2, .slice A0_3 l0_3.length c0_3] 24 (0, 0)) (bq BK334.out) hg (Kd.R_ne HO352.out BK334.out (by decide)))
            have n1_ := Aside0.mk (Kd.R_after (ok := (fun _ => True)) (rq HO343.out) hg hat)
            have n2_ := Aside0.mk (hb)
            have n3_ := Aside0.mk (ho)
            clear BK334
            clear HO343
            clear HB
            clear HO352
            have BK334 := n0_
            have HO343 := n1_
            have HB := n2_
            have HO355 := n3_
            clear n0_ n1_ n2_ n3_
            clear ho hb hg hat
            obtain ⟨Ao25, co25, eo25⟩ := Kd.R_slice HO355.out
            (first | subst eo25 | (injection eo25 with f1_ f2_ f3_; have f4_ := f1_.symm; have f5_ := f3_.symm; clear f1_ f2_ f3_; subst f4_; subst f5_))
            refine hK.out _ _ ⟨(blk_cell BK334.out 0).trans rfl, (blk_cell BK334.out 1).trans rfl, (blk_cell BK334.out 2).trans rfl, (blk_cell BK334.out 3).trans rfl⟩ (fun hHeld => ?_)
            clear hK K
            refine norm_ (a' := ?_) ?_ ?_
            rotate_left
            · show Act.put _ (some 27) _ = _
              simp only [Act.put, List.setIfInBounds_toArray, List.set_cons_zero, List.set_cons_succ, i64_w, i32_w]
              rfl
            refine one_ (i := 5) (N := some 28) #[true, true, true, true, true, true, false, false] rfl rfl (one_of HT_.out (by kernel_rfl)) (by decide) (fun K hK => ?_)
            refine goes_ Try.func71 (by kernel_rfl) rfl #[.slice A0_1 l0_1.length c0_1, .slice Ao25 y353.length co25] (by rfl) rfl rfl (by (try simp only [List.map_toArray, List.map_cons, List.map_nil]); first | done | rfl | (simp only [List.length_drop, List.length_take]; rfl)) ?_
            with_reducible refine (impl_digest.calls k _ _ l0_1 _ _ y353 t356 _ ?side1 ?side2 ?side3 ?side4 A10.out).mono ?_
            (case side1 => repeat (first | exact (Kd.C_below HR0_1.out HB.out) | (with_reducible refine Kd.C_alloc ?_ _) | (with_reducible refine Kd.C_drewN ?_ _) | (with_reducible refine Kd.C_drew ?_)))
            (case side2 => exact HC0_1.out)
            (case side3 => repeat (first | exact (Kd.R_reads' HO355.out).2.2 | (with_reducible refine Kd.C_alloc ?_ _) | (with_reducible refine Kd.C_drewN ?_ _) | (with_reducible refine Kd.C_drew ?_)))
            (case side4 => exact (Kd.R_reads' HO355.out).2.1)
            rintro e w26 ⟨v357, rfl, ho0, hb⟩
            refine ⟨_, rfl, ?_⟩
            have n0_ := Aside0.mk (Kd.R_elder' (rq HO343.out) (Kd.R_base ho0) hb)
            have n1_ := Aside0.mk (Kd.R_elder' (rq HO355.out) (Kd.R_base ho0) hb)
            have n2_ := Aside0.mk (Kd.R_lower (Kd.R_new' (Kd.R_new' ho0 (Kd.R_lt (rq HO343.out))) (Kd.R_lt (rq HO355.out))) (below_size (by repeat (first | (with_reducible first | exact HB.out | apply below_alloc | apply pw_below_drewN | apply below_drew1 | refine below_set ?_ GE334.out) | exact HB.out))))
            have n3_ := Aside0.mk (blk_below (bq BK334.out) hb)
            have n4_ := Aside0.mk (below_step (by repeat (first | (with_reducible first | exact HB.out | apply below_alloc | apply pw_below_drewN | apply below_drew1 | refine below_set ?_ GE334.out) | exact HB.out)) hb)
            clear HO343
            clear HO355
            clear BK334
            clear HB
            have HO343 := n0_
            have HO355 := n1_
            have HO358 := n2_
            have BK334 := n3_
            have HB := n4_
            clear n0_ n1_ n2_ n3_ n4_
            (try clear hb)
            (try clear hb2)
            (try clear hk)
            (try clear hi)
            (try clear ho0)
            obtain ⟨Ao27, co27, eo27⟩ := Kd.R_slice HO358.out
            (first | subst eo27 | (injection eo27 with f1_ f2_ f3_; have f4_ := f1_.symm; have f5_ := f3_.symm; clear f1_ f2_ f3_; subst f4_; subst f5_))
            have q28 : (8 : Int) ≤ ((t356.length : Int) : Int) := of_decide_eq_true (by first | (with_reducible assumption) | assumption)
            obtain ⟨i028, hi028, _, hsz28, _⟩ := info_parts info5
            have hcut28 := cut_to (P := Try.prog) 22 5 .i64 Try.underlying22 hi028 Ao27 t356.length co27 8 (by omega) q28 (Kd.R_reads' HO358.out).2.1
            have hr28 := Kd.R_take (m := (8 : Int).toNat) HO358.out (by omega)
            have hy28 : y359.length = (8 : Int).toNat := (by rw [Ny359.out, List.length_take]; omega)
            rw [← Ny359.out] at hr28
            rw [← hy28] at hr28 hcut28
            clear hy28 hi028 hsz28 HO358
            have HO361 := Aside0.mk hr28
            clear hr28
            replace q28 := eq_true q28
            refine hK.out _ _ ⟨(blk_cell BK334.out 0).trans rfl, (blk_cell BK334.out 1).trans rfl, (blk_cell BK334.out 2).trans rfl, (blk_cell BK334.out 3).trans rfl⟩ (fun hHeld => ?_)
            clear hK K
            refine norm_ (a' := ?_) ?_ ?_
            rotate_left
            · show Act.put _ (some 28) _ = _
              simp only [Act.put, List.setIfInBounds_toArray, List.set_cons_zero, List.set_cons_succ, i64_w, i32_w]
              rfl
            refine pure_ (i := 6) (N := some 29) (v := ?_) (a' := ?_) #[true, true, true, true, true, true, true, false] rfl rfl (any_of HT_.out (by kernel_rfl)) (fun _ _ _ h => h) (Or.inl ⟨by rfl, ?_⟩) ?_ ?_
            rotate_left
            · intro w'
              go_simp
              with_reducible rfl
            rotate_left
            · simp only [Act.put, List.setIfInBounds_toArray, List.set_cons_zero, List.set_cons_succ, i64_w, i32_w]
              rfl
            refine pure_ (i := 7) (N := some 8) (v := ?_) (a' := ?_) #[true, true, true, true, true, true, true, true] rfl rfl (any_of HT_.out (by kernel_rfl)) (fun _ _ _ h => h) (Or.inl ⟨by rfl, ?_⟩) ?_ ?_
            rotate_left
            · intro w'
              go_simp
              with_reducible rfl
            rotate_left
            · simp only [Act.put, List.setIfInBounds_toArray, List.set_cons_zero, List.set_cons_succ, i64_w, i32_w]
              rfl
            refine done_ (done_of HT_.out (by kernel_rfl)) ?_
            try go_wp2
            go_ret
            exact ⟨_, by first | rfl | (simp [errW_none, errW_some] <;> rfl) | (simp [*, errW_none, errW_some] <;> rfl), by (with_reducible repeat (first | apply Kd.R_alloc | apply Kd.R_drewN | apply Kd.R_drew)); exact Kd.R_mono HO361.out (fun _ hk => trivial), by repeat (first | (with_reducible first | exact HB.out | apply below_alloc | apply pw_below_drewN | apply below_drew1 | refine below_set ?_ GE334.out) | exact HB.out)⟩
          · rw [if_neg c11] at H
            exact absurd H (by simp)
        · rw [if_neg c9] at H
          exact absurd H (by simp)
      · rw [if_neg c8] at H
        exact absurd H (by simp)
    · rw [if_neg c6] at H
      exact absurd H (by simp)
  · rw [if_neg c5] at H
    exact absurd H (by simp)

/-! ### impl_Seal: function 29 -/
def impl_Seal.j0 : Nat → Int → List Int → List Int → Bool → List Int → List Int → List Int → List Int → Option (List Int × Int)
  | 0, _, _, _, _, _, _, _, _ => none
  | k + 1, x1, x2, x3, x19, x363000, x363001, x363002, x363003 => if x19 = true then (some (([] : List Int), 1)) else (if (wrap64 ((x2.length : Int) + (x3.length : Int))) > 1500 then (some (([] : List Int), 4)) else ((impl_nonceOf.f k x363000 x363001 x363002 x363003 x1).bind fun t365 => ((impl_streamed.f k x363000 x363001 x363002 x363003 t365 x3).bind fun t368 => ((impl_tagOf.f k x363000 x363001 x363002 x363003 t365 x2 t368).bind fun t371 => (if t368.length + t371.length < 140737488355328 then (some ((t368 ++ t371), 0)) else (none))))))
def impl_Seal.f (k : Nat) (l0_0 : List Int) (l0_1 : List Int) (l0_2 : List Int) (l0_3 : List Int) (a1 : Int) (l2 : List Int) (l3 : List Int) : Option (List Int × Int) := (impl_keysOK.f l0_0 l0_1 l0_2 l0_3).bind fun t363 => (if t363 = true then ((impl_inVar.f a1).bind fun t364 => (impl_Seal.j0 k a1 l2 l3 (!t364) l0_0 l0_1 l0_2 l0_3)) else (impl_Seal.j0 k a1 l2 l3 true l0_0 l0_1 l0_2 l0_3))
theorem impl_Seal.mono_l : ∀ k, (∀ y0 y1 y2 y3 y4 y5 y6 y7, LeO (impl_Seal.j0 k y0 y1 y2 y3 y4 y5 y6 y7) (impl_Seal.j0 (k + 1) y0 y1 y2 y3 y4 y5 y6 y7))
  | 0 => fun _ _ _ _ _ _ _ _ r h => by simp [impl_Seal.j0] at h
  | k + 1 => by
    have ih0 := impl_Seal.mono_l k
    · intro y0 y1 y2 y3 y4 y5 y6 y7
      unfold impl_Seal.j0
      repeat' first
      | (with_reducible exact ih0 _ _ _ _ _ _ _ _)
      | (with_reducible exact impl_nonceOf.mono _ _ _ _ _ _)
      | (with_reducible exact impl_streamed.mono _ _ _ _ _ _ _)
      | (with_reducible exact impl_tagOf.mono _ _ _ _ _ _ _ _)
      | (with_reducible exact LeO.refl _)
      | (with_reducible exact LeO.none _)
      | (with_reducible refine LeO.ite ?_ ?_)
      | (with_reducible refine LeO.bind ?_ (fun _ => ?_))
      | exact ih0 _ _ _ _ _ _ _ _
      | exact impl_nonceOf.mono _ _ _ _ _ _
      | exact impl_streamed.mono _ _ _ _ _ _ _
      | exact impl_tagOf.mono _ _ _ _ _ _ _ _
      | exact LeO.none _
      | refine LeO.ite ?_ ?_
      | refine LeO.bind ?_ (fun _ => ?_)
theorem impl_Seal.mono : ∀ a0 a1 a2 a3 a4 a5 a6 k, LeO (impl_Seal.f k a0 a1 a2 a3 a4 a5 a6) (impl_Seal.f (k + 1) a0 a1 a2 a3 a4 a5 a6) := by
  intro a0 a1 a2 a3 a4 a5 a6 k
  have ih0 := impl_Seal.mono_l k
  unfold impl_Seal.f
  repeat' first
      | (with_reducible exact ih0 _ _ _ _ _ _ _ _)
      | (with_reducible exact impl_nonceOf.mono _ _ _ _ _ _)
      | (with_reducible exact impl_streamed.mono _ _ _ _ _ _ _)
      | (with_reducible exact impl_tagOf.mono _ _ _ _ _ _ _ _)
      | (with_reducible exact LeO.refl _)
      | (with_reducible exact LeO.none _)
      | (with_reducible refine LeO.ite ?_ ?_)
      | (with_reducible refine LeO.bind ?_ (fun _ => ?_))
      | exact ih0 _ _ _ _ _ _ _ _
      | exact impl_nonceOf.mono _ _ _ _ _ _
      | exact impl_streamed.mono _ _ _ _ _ _ _
      | exact impl_tagOf.mono _ _ _ _ _ _ _ _
      | exact LeO.none _
      | refine LeO.ite ?_ ?_
      | refine LeO.bind ?_ (fun _ => ?_)
set_option maxHeartbeats 8000000 in
set_option maxRecDepth 100000 in
theorem impl_Seal.calls (k : Nat) (A0_0 : Option Addr) (c0_0 : Nat) (l0_0 : List Int) (A0_1 : Option Addr) (c0_1 : Nat) (l0_1 : List Int) (A0_2 : Option Addr) (c0_2 : Nat) (l0_2 : List Int) (A0_3 : Option Addr) (c0_3 : Nat) (l0_3 : List Int) (a1 : Int) (A2 : Option Addr) (c2 : Nat) (l2 : List Int) (A3 : Option Addr) (c3 : Nat) (l3 : List Int) (r1 : List Int) (r2 : Int) (w : World) (hr0_0 : Kd.C (Kd.int .u8) w A0_0 l0_0.length l0_0) (hc0_0 : l0_0.length ≤ c0_0) (hr0_1 : Kd.C (Kd.int .u8) w A0_1 l0_1.length l0_1) (hc0_1 : l0_1.length ≤ c0_1) (hr0_2 : Kd.C (Kd.int .u8) w A0_2 l0_2.length l0_2) (hc0_2 : l0_2.length ≤ c0_2) (hr0_3 : Kd.C (Kd.int .u8) w A0_3 l0_3.length l0_3) (hc0_3 : l0_3.length ≤ c0_3) (hr2 : Kd.C (Kd.int .u8) w A2 l2.length l2) (hc2 : l2.length ≤ c2) (hr3 : Kd.C (Kd.int .u8) w A3 l3.length l3) (hc3 : l3.length ≤ c3) (h : impl_Seal.f k l0_0 l0_1 l0_2 l0_3 a1 l2 l3 = some (r1, r2)) :
    Calls Try.prog 29 #[.agg #[.slice A0_0 l0_0.length c0_0, .slice A0_1 l0_1.length c0_1, .slice A0_2 l0_2.length c0_2, .slice A0_3 l0_3.length c0_3], .int .i64 a1, .slice A2 l2.length c2, .slice A3 l3.length c3] w fun e w' => ∃ v0_ : Value, e = .returned (.tuple #[v0_, .int .i64 r2]) ∧ Kd.R (Kd.int .u8) 5 w' w.heap.size (fun _ => True) v0_ r1 ∧ Below w.heap.size w w' := by
  have hu24 := Try.underlying24
  have HR0_0 := Aside0.mk hr0_0
  have HC0_0 := Aside0.mk hc0_0
  clear hr0_0 hc0_0
  have HR0_1 := Aside0.mk hr0_1
  have HC0_1 := Aside0.mk hc0_1
  clear hr0_1 hc0_1
  have HR0_2 := Aside0.mk hr0_2
  have HC0_2 := Aside0.mk hc0_2
  clear hr0_2 hc0_2
  have HR0_3 := Aside0.mk hr0_3
  have HC0_3 := Aside0.mk hc0_3
  clear hr0_3 hc0_3
  have HR2 := Aside0.mk hr2
  have HC2 := Aside0.mk hc2
  clear hr2 hc2
  have HR3 := Aside0.mk hr3
  have HC3 := Aside0.mk hc3
  clear hr3 hc3
  have HB := Aside0.mk (Below.refl w.heap.size w)
  have H : ((impl_keysOK.f l0_0 l0_1 l0_2 l0_3).bind fun t363 => (if t363 = true then ((impl_inVar.f a1).bind fun t364 => (impl_Seal.j0 k a1 l2 l3 (!t364) l0_0 l0_1 l0_2 l0_3)) else (impl_Seal.j0 k a1 l2 l3 true l0_0 l0_1 l0_2 l0_3))) = some (r1, r2) := h
  clear h
  have HC5 := Aside0.mk H
  clear H
  go_enter Try.func29, Try.ntmps29
  go_upto_region 1 with (first | ((with_reducible refine gate_dst (N := 4) rfl ?_); refine box_event ?hg (N := 4) ?hd (cs := #[.slice A0_0 l0_0.length c0_0, .slice A0_1 l0_1.length c0_1, .slice A0_2 l0_2.length c0_2, .slice A0_3 l0_3.length c0_3]) (t := 24) ?hr ?_; (case hd => rfl); (case hg => rfl); (case hr => first | (go_simp; done) | (go_simp; rfl)); intro gb362 hg w6 hbox hb; have n0_ := Aside0.mk (below_step (hq HB.out) hb); have n1_ := Aside0.mk (hbox); have n2_ := Aside0.mk ((by rw [hg]; exact (below_size (hq HB.out)) : w.heap.size ≤ gb362)); have n3_ := Aside0.mk ((by rw [hg]; exact (below_size (hq HB.out)) : w.heap.size ≤ gb362)); clear HB; have HB := n0_; have BK362 := n1_; have GW362 := n2_; have GE362 := n3_; clear n0_ n1_ n2_ n3_; clear hb hbox hg))
  (try simp only [Act.put, List.setIfInBounds_toArray, List.set_cons_zero, List.set_cons_succ])
  go_cut [19] (fun v19 wc => ∃ (kq : Nat) (x19_4 : Bool), v19 = .bool x19_4 ∧ Aside0 (impl_Seal.j0 kq a1 l2 l3 x19_4 l0_0 l0_1 l0_2 l0_3 = some (r1, r2)) ∧ Aside0 (kq ≤ k) ∧ Aside0 (wc.heap[gb362]? = some (.cells #[(.slice A0_0 l0_0.length c0_0), (.slice A0_1 l0_1.length c0_1), (.slice A0_2 l0_2.length c0_2), (.slice A0_3 l0_3.length c0_3)] 24 (0, 0))) ∧ Aside0 (Below w.heap.size w wc))
  case first =>
    have H := HC5.out
    clear HC5
    replace H := Option.bind_eq_some_iff.mp H
    obtain ⟨t363, A70, H⟩ := H
    replace H : (if t363 = true then ((impl_inVar.f a1).bind fun t364 => (impl_Seal.j0 k a1 l2 l3 (!t364) l0_0 l0_1 l0_2 l0_3)) else (impl_Seal.j0 k a1 l2 l3 true l0_0 l0_1 l0_2 l0_3)) = some (r1, r2) := H
    have A7 := Aside0.mk A70
    clear A70
    by_cases c8 : t363 = true
    · subst c8
      have H1 : ((impl_inVar.f a1).bind fun t364 => (impl_Seal.j0 k a1 l2 l3 (!t364) l0_0 l0_1 l0_2 l0_3)) = some (r1, r2) := by rw [if_pos rfl] at H; exact H
      clear H
      have H := H1
      clear H1
      replace H := Option.bind_eq_some_iff.mp H
      obtain ⟨t364, A90, H⟩ := H
      replace H : (impl_Seal.j0 k a1 l2 l3 (!t364) l0_0 l0_1 l0_2 l0_3) = some (r1, r2) := H
      have A9 := Aside0.mk A90
      clear A90
      have H' := Aside0.mk H
      clear H
      have hcz10_0 : w6.cell? ⟨gb362, 0, none⟩ = some (.slice A0_0 l0_0.length c0_0) := (blk_cell BK362.out 0).trans rfl
      have hcz10_1 : w6.cell? ⟨gb362, 1, none⟩ = some (.slice A0_1 l0_1.length c0_1) := (blk_cell BK362.out 1).trans rfl
      have hcz10_2 : w6.cell? ⟨gb362, 2, none⟩ = some (.slice A0_2 l0_2.length c0_2) := (blk_cell BK362.out 2).trans rfl
      have hcz10_3 : w6.cell? ⟨gb362, 3, none⟩ = some (.slice A0_3 l0_3.length c0_3) := (blk_cell BK362.out 3).trans rfl
      have hfz10_0 := blk_frozen BK362.out 0
      have hfz10_1 := blk_frozen BK362.out 1
      have hfz10_2 := blk_frozen BK362.out 2
      have hfz10_3 := blk_frozen BK362.out 3
      go_wp2_with (first | ((with_reducible refine gate_callee (f := 87) rfl ?_); refine goesL_ (some 13) rfl rfl Try.func87 (by kernel_rfl) rfl #[.agg #[.slice A0_0 l0_0.length c0_0, .slice A0_1 l0_1.length c0_1, .slice A0_2 l0_2.length c0_2, .slice A0_3 l0_3.length c0_3]] rfl (by (try simp only [List.map_toArray, List.map_cons, List.map_nil]); first | done | rfl | (simp only [List.length_drop, List.length_take]; rfl)) ?_; (with_reducible refine (impl_keysOK.calls _ _ l0_0 _ _ l0_1 _ _ l0_2 _ _ l0_3 true _ ?side1 ?side2 ?side3 ?side4 ?side5 ?side6 ?side7 ?side8 A7.out).mono ?_); (case side1 => repeat (first | exact (Kd.C_below HR0_0.out HB.out) | (with_reducible refine Kd.C_alloc ?_ _) | (with_reducible refine Kd.C_drewN ?_ _) | (with_reducible refine Kd.C_drew ?_))); (case side2 => exact HC0_0.out); (case side3 => repeat (first | exact (Kd.C_below HR0_1.out HB.out) | (with_reducible refine Kd.C_alloc ?_ _) | (with_reducible refine Kd.C_drewN ?_ _) | (with_reducible refine Kd.C_drew ?_))); (case side4 => exact HC0_1.out); (case side5 => repeat (first | exact (Kd.C_below HR0_2.out HB.out) | (with_reducible refine Kd.C_alloc ?_ _) | (with_reducible refine Kd.C_drewN ?_ _) | (with_reducible refine Kd.C_drew ?_))); (case side6 => exact HC0_2.out); (case side7 => repeat (first | exact (Kd.C_below HR0_3.out HB.out) | (with_reducible refine Kd.C_alloc ?_ _) | (with_reducible refine Kd.C_drewN ?_ _) | (with_reducible refine Kd.C_drew ?_))); (case side8 => exact HC0_3.out); rintro e w11 ⟨rfl, hb⟩; refine ⟨_, rfl, ?_⟩; have n0_ := Aside0.mk (blk_below (bq BK362.out) hb); have n1_ := Aside0.mk (below_step (by repeat (first | (with_reducible first | exact HB.out | apply below_alloc | apply pw_below_drewN | apply below_drew1 | refine below_set ?_ GE362.out) | exact HB.out)) hb); clear BK362; clear HB; have BK362 := n0_; have HB := n1_; clear n0_ n1_; (try clear hb); (try clear hb2); (try clear hk); (try clear hi)) | (go_at_call 88; (with_reducible refine (impl_inVar.calls a1 t364 _ A9.out).mono ?_); rintro e w' ⟨rfl, ⟨nd, rfl⟩⟩))
      go_meet
      case rel => exact ⟨_, (!t364), (by first | rfl | (simp; done) | (simp [*]; done)), H', ⟨by first | omega | exact Nat.le_refl _⟩, ⟨by (with_reducible repeat (first | refine blk_drewN ?_ _ | refine blk_drew ?_ | refine blk_alloc ?_ _)); exact BK362.out⟩, ⟨by repeat (first | (with_reducible first | exact HB.out | apply below_alloc | apply pw_below_drewN | apply below_drew1 | refine below_set ?_ GE362.out) | exact HB.out)⟩⟩
    · replace c8 := Bool.eq_false_iff.mpr c8
      subst c8
      have H1 : (impl_Seal.j0 k a1 l2 l3 true l0_0 l0_1 l0_2 l0_3) = some (r1, r2) := by rw [if_neg (show ¬ (false = true) by decide)] at H; exact H
      clear H
      have H := H1
      clear H1
      have H' := Aside0.mk H
      clear H
      have hcz12_0 : w6.cell? ⟨gb362, 0, none⟩ = some (.slice A0_0 l0_0.length c0_0) := (blk_cell BK362.out 0).trans rfl
      have hcz12_1 : w6.cell? ⟨gb362, 1, none⟩ = some (.slice A0_1 l0_1.length c0_1) := (blk_cell BK362.out 1).trans rfl
      have hcz12_2 : w6.cell? ⟨gb362, 2, none⟩ = some (.slice A0_2 l0_2.length c0_2) := (blk_cell BK362.out 2).trans rfl
      have hcz12_3 : w6.cell? ⟨gb362, 3, none⟩ = some (.slice A0_3 l0_3.length c0_3) := (blk_cell BK362.out 3).trans rfl
      have hfz12_0 := blk_frozen BK362.out 0
      have hfz12_1 := blk_frozen BK362.out 1
      have hfz12_2 := blk_frozen BK362.out 2
      have hfz12_3 := blk_frozen BK362.out 3
      go_wp2_with (first | ((with_reducible refine gate_callee (f := 87) rfl ?_); refine goesL_ (some 13) rfl rfl Try.func87 (by kernel_rfl) rfl #[.agg #[.slice A0_0 l0_0.length c0_0, .slice A0_1 l0_1.length c0_1, .slice A0_2 l0_2.length c0_2, .slice A0_3 l0_3.length c0_3]] rfl (by (try simp only [List.map_toArray, List.map_cons, List.map_nil]); first | done | rfl | (simp only [List.length_drop, List.length_take]; rfl)) ?_; (with_reducible refine (impl_keysOK.calls _ _ l0_0 _ _ l0_1 _ _ l0_2 _ _ l0_3 false _ ?side1 ?side2 ?side3 ?side4 ?side5 ?side6 ?side7 ?side8 A7.out).mono ?_); (case side1 => repeat (first | exact (Kd.C_below HR0_0.out HB.out) | (with_reducible refine Kd.C_alloc ?_ _) | (with_reducible refine Kd.C_drewN ?_ _) | (with_reducible refine Kd.C_drew ?_))); (case side2 => exact HC0_0.out); (case side3 => repeat (first | exact (Kd.C_below HR0_1.out HB.out) | (with_reducible refine Kd.C_alloc ?_ _) | (with_reducible refine Kd.C_drewN ?_ _) | (with_reducible refine Kd.C_drew ?_))); (case side4 => exact HC0_1.out); (case side5 => repeat (first | exact (Kd.C_below HR0_2.out HB.out) | (with_reducible refine Kd.C_alloc ?_ _) | (with_reducible refine Kd.C_drewN ?_ _) | (with_reducible refine Kd.C_drew ?_))); (case side6 => exact HC0_2.out); (case side7 => repeat (first | exact (Kd.C_below HR0_3.out HB.out) | (with_reducible refine Kd.C_alloc ?_ _) | (with_reducible refine Kd.C_drewN ?_ _) | (with_reducible refine Kd.C_drew ?_))); (case side8 => exact HC0_3.out); rintro e w13 ⟨rfl, hb⟩; refine ⟨_, rfl, ?_⟩; have n0_ := Aside0.mk (blk_below (bq BK362.out) hb); have n1_ := Aside0.mk (below_step (by repeat (first | (with_reducible first | exact HB.out | apply below_alloc | apply pw_below_drewN | apply below_drew1 | refine below_set ?_ GE362.out) | exact HB.out)) hb); clear BK362; clear HB; have BK362 := n0_; have HB := n1_; clear n0_ n1_; (try clear hb); (try clear hb2); (try clear hk); (try clear hi)))
      go_meet
      case rel => exact ⟨_, (true), (by first | rfl | (simp; done) | (simp [*]; done)), H', ⟨by first | omega | exact Nat.le_refl _⟩, ⟨by (with_reducible repeat (first | refine blk_drewN ?_ _ | refine blk_drew ?_ | refine blk_alloc ?_ _)); exact BK362.out⟩, ⟨by repeat (first | (with_reducible first | exact HB.out | apply below_alloc | apply pw_below_drewN | apply below_drew1 | refine below_set ?_ GE362.out) | exact HB.out)⟩⟩
  case rest =>
    clear HC5
    try clear c2
    try clear p2
    try clear c3
    try clear c8
    try clear hcz10_0
    try clear hcz10_1
    try clear hcz10_2
    try clear hcz10_3
    try clear hcz12_0
    try clear hcz12_1
    try clear hcz12_2
    try clear hcz12_3
    try clear hfz10_0
    try clear hfz10_1
    try clear hfz10_2
    try clear hfz10_3
    try clear hfz12_0
    try clear hfz12_1
    try clear hfz12_2
    try clear hfz12_3
    obtain ⟨kq, x19_4, rfl, HA, HJ4, BK362, HB⟩ := hcut
    cases kq with
    | zero => exact absurd HA.out (by simp [impl_Seal.j0])
    | succ kj4 =>
      have H := HA.out
      clear HA
      simp only [impl_Seal.j0] at H
      by_cases c14 : x19_4 = true
      · subst c14
        have H1 : (some (([] : List Int), 1)) = some (r1, r2) := by rw [if_pos rfl] at H; exact H
        clear H
        have H := H1
        clear H1
        simp only [Option.some.injEq, Prod.mk.injEq] at H
        obtain ⟨rfl, rfl⟩ := H
        go_wp2
        go_ret2
        exact ⟨_, by first | rfl | (simp [errW_none, errW_some] <;> rfl) | (simp [*, errW_none, errW_some] <;> rfl), by first | exact Kd.R_nil _ _ _ _ _ | exact Kd.N_nil _ _ _ _ _ | exact Kd.V_nil _ _ _ _ _ | exact Kd.Q_nil _ _ _ _ _ | exact Kd.S_nil _ _ _ _ _, by repeat (first | (with_reducible first | exact HB.out | apply below_alloc | apply pw_below_drewN | apply below_drew1 | refine below_set ?_ GE362.out) | exact HB.out)⟩
      · replace c14 := Bool.eq_false_iff.mpr c14
        subst c14
        have H1 : (if (wrap64 ((l2.length : Int) + (l3.length : Int))) > 1500 then (some (([] : List Int), 4)) else ((impl_nonceOf.f kj4 l0_0 l0_1 l0_2 l0_3 a1).bind fun t365 => ((impl_streamed.f kj4 l0_0 l0_1 l0_2 l0_3 t365 l3).bind fun t368 => ((impl_tagOf.f kj4 l0_0 l0_1 l0_2 l0_3 t365 l2 t368).bind fun t371 => (if t368.length + t371.length < 140737488355328 then (some ((t368 ++ t371), 0)) else (none)))))) = some (r1, r2) := by rw [if_neg (show ¬ (false = true) by decide)] at H; exact H
        clear H
        have H := H1
        clear H1
        by_cases c15 : (wrap64 ((l2.length : Int) + (l3.length : Int))) > 1500
        · rw [if_pos c15] at H
          have c15b0 : decide (1500 < (wrap64 ((l2.length : Int) + (l3.length : Int)))) = true := decide_eq_true c15
          clear c15
          simp only [Option.some.injEq, Prod.mk.injEq] at H
          obtain ⟨rfl, rfl⟩ := H
          go_wp2
          go_ret2
          exact ⟨_, by first | rfl | (simp [errW_none, errW_some] <;> rfl) | (simp [*, errW_none, errW_some] <;> rfl), by first | exact Kd.R_nil _ _ _ _ _ | exact Kd.N_nil _ _ _ _ _ | exact Kd.V_nil _ _ _ _ _ | exact Kd.Q_nil _ _ _ _ _ | exact Kd.S_nil _ _ _ _ _, by repeat (first | (with_reducible first | exact HB.out | apply below_alloc | apply pw_below_drewN | apply below_drew1 | refine below_set ?_ GE362.out) | exact HB.out)⟩
        · rw [if_neg c15] at H
          have c15b0 : decide (1500 < (wrap64 ((l2.length : Int) + (l3.length : Int)))) = false := decide_eq_false c15
          clear c15
          replace H := Option.bind_eq_some_iff.mp H
          obtain ⟨t365, A160, H⟩ := H
          replace H : ((impl_streamed.f kj4 l0_0 l0_1 l0_2 l0_3 t365 l3).bind fun t368 => ((impl_tagOf.f kj4 l0_0 l0_1 l0_2 l0_3 t365 l2 t368).bind fun t371 => (if t368.length + t371.length < 140737488355328 then (some ((t368 ++ t371), 0)) else (none)))) = some (r1, r2) := H
          have A16 := Aside0.mk A160
          clear A160
          replace H := Option.bind_eq_some_iff.mp H
          obtain ⟨t368, A170, H⟩ := H
          replace H : ((impl_tagOf.f kj4 l0_0 l0_1 l0_2 l0_3 t365 l2 t368).bind fun t371 => (if t368.length + t371.length < 140737488355328 then (some ((t368 ++ t371), 0)) else (none))) = some (r1, r2) := H
          have A17 := Aside0.mk A170
          clear A170
          replace H := Option.bind_eq_some_iff.mp H
          obtain ⟨t371, A180, H⟩ := H
          replace H : (if t368.length + t371.length < 140737488355328 then (some ((t368 ++ t371), 0)) else (none)) = some (r1, r2) := H
          have A18 := Aside0.mk A180
          clear A180
          by_cases c19 : t368.length + t371.length < 140737488355328
          · rw [if_pos c19] at H
            have LMc19 := Aside0.mk c19
            clear c19
            obtain ⟨y374, hy374⟩ : ∃ y_ : List Int, y_ = (t368 ++ t371) := ⟨_, rfl⟩
            replace H : (some (y374, 0)) = some (r1, r2) := by first | (rw [hy374]; with_reducible exact H) | (have H2_ := (Option.bind_some _ _).symm.trans H; rw [hy374]; with_reducible exact H2_) | (have H2_ := (Option.bind_some _ _).symm.trans H; with_reducible exact H2_) | with_reducible exact H | (rw [hy374]; exact H) | exact H
            have Ny374 := Aside0.mk hy374
            clear hy374
            simp only [Option.some.injEq, Prod.mk.injEq] at H
            obtain ⟨rfl, rfl⟩ := H
            have hcz20_0 : wc.cell? ⟨gb362, 0, none⟩ = some (.slice A0_0 l0_0.length c0_0) := (blk_cell BK362.out 0).trans rfl
            have hcz20_1 : wc.cell? ⟨gb362, 1, none⟩ = some (.slice A0_1 l0_1.length c0_1) := (blk_cell BK362.out 1).trans rfl
            have hcz20_2 : wc.cell? ⟨gb362, 2, none⟩ = some (.slice A0_2 l0_2.length c0_2) := (blk_cell BK362.out 2).trans rfl
            have hcz20_3 : wc.cell? ⟨gb362, 3, none⟩ = some (.slice A0_3 l0_3.length c0_3) := (blk_cell BK362.out 3).trans rfl
            have hfz20_0 := blk_frozen BK362.out 0
            have hfz20_1 := blk_frozen BK362.out 1
            have hfz20_2 := blk_frozen BK362.out 2
            have hfz20_3 := blk_frozen BK362.out 3
            go_wp2_with (first | ((with_reducible refine gate_callee (f := 89) rfl ?_); refine goesL_ (some 28) rfl rfl Try.func89 (by kernel_rfl) rfl #[.agg #[.slice A0_0 l0_0.length c0_0, .slice A0_1 l0_1.length c0_1, .slice A0_2 l0_2.length c0_2, .slice A0_3 l0_3.length c0_3], .int .i64 a1] rfl (by (try simp only [List.map_toArray, List.map_cons, List.map_nil]); first | done | rfl | (simp only [List.length_drop, List.length_take]; rfl)) ?_; (with_reducible refine (impl_nonceOf.calls kj4 _ _ l0_0 _ _ l0_1 _ _ l0_2 _ _ l0_3 a1 t365 _ ?side1 ?side2 ?side3 ?side4 ?side5 ?side6 ?side7 ?side8 A16.out).mono ?_); (case side1 => repeat (first | exact (Kd.C_below HR0_0.out HB.out) | (with_reducible refine Kd.C_alloc ?_ _) | (with_reducible refine Kd.C_drewN ?_ _) | (with_reducible refine Kd.C_drew ?_))); (case side2 => exact HC0_0.out); (case side3 => repeat (first | exact (Kd.C_below HR0_1.out HB.out) | (with_reducible refine Kd.C_alloc ?_ _) | (with_reducible refine Kd.C_drewN ?_ _) | (with_reducible refine Kd.C_drew ?_))); (case side4 => exact HC0_1.out); (case side5 => repeat (first | exact (Kd.C_below HR0_2.out HB.out) | (with_reducible refine Kd.C_alloc ?_ _) | (with_reducible refine Kd.C_drewN ?_ _) | (with_reducible refine Kd.C_drew ?_))); (case side6 => exact HC0_2.out); (case side7 => repeat (first | exact (Kd.C_below HR0_3.out HB.out) | (with_reducible refine Kd.C_alloc ?_ _) | (with_reducible refine Kd.C_drewN ?_ _) | (with_reducible refine Kd.C_drew ?_))); (case side8 => exact HC0_3.out); rintro e w21 ⟨v366, rfl, ho0, hb⟩; refine ⟨_, rfl, ?_⟩; have n0_ := Aside0.mk (Kd.R_lower ho0 (below_size (by repeat (first | (with_reducible first | exact HB.out | apply below_alloc | apply pw_below_drewN | apply below_drew1 | refine below_set ?_ GE362.out) | exact HB.out)))); have n1_ := Aside0.mk (blk_below (bq BK362.out) hb); have n2_ := Aside0.mk (below_step (by repeat (first | (with_reducible first | exact HB.out | apply below_alloc | apply pw_below_drewN | apply below_drew1 | refine below_set ?_ GE362.out) | exact HB.out)) hb); clear BK362; clear HB; have HO367 := n0_; have BK362 := n1_; have HB := n2_; clear n0_ n1_ n2_; (try clear hb); (try clear hb2); (try clear hk); (try clear hi); (try clear ho0); have hcz22_0 : w21.cell? ⟨gb362, 0, none⟩ = some (.slice A0_0 l0_0.length c0_0) := (blk_cell BK362.out 0).trans rfl; have hcz22_1 : w21.cell? ⟨gb362, 1, none⟩ = some (.slice A0_1 l0_1.length c0_1) := (blk_cell BK362.out 1).trans rfl; have hcz22_2 : w21.cell? ⟨gb362, 2, none⟩ = some (.slice A0_2 l0_2.length c0_2) := (blk_cell BK362.out 2).trans rfl; have hcz22_3 : w21.cell? ⟨gb362, 3, none⟩ = some (.slice A0_3 l0_3.length c0_3) := (blk_cell BK362.out 3).trans rfl; have hfz22_0 := blk_frozen BK362.out 0; have hfz22_1 := blk_frozen BK362.out 1; have hfz22_2 := blk_frozen BK362.out 2; have hfz22_3 := blk_frozen BK362.out 3; obtain ⟨Ao23, co23, eo23⟩ := Kd.R_slice HO367.out; subst eo23) | ((with_reducible refine gate_callee (f := 90) rfl ?_); refine goesL_ (some 32) rfl rfl Try.func90 (by kernel_rfl) rfl #[.agg #[.slice A0_0 l0_0.length c0_0, .slice A0_1 l0_1.length c0_1, .slice A0_2 l0_2.length c0_2, .slice A0_3 l0_3.length c0_3], .slice Ao23 t365.length co23, .slice A3 l3.length c3] rfl (by (try simp only [List.map_toArray, List.map_cons, List.map_nil]); first | done | rfl | (simp only [List.length_drop, List.length_take]; rfl)) ?_; (with_reducible refine (impl_streamed.calls kj4 _ _ l0_0 _ _ l0_1 _ _ l0_2 _ _ l0_3 _ _ t365 _ _ l3 t368 _ ?side1 ?side2 ?side3 ?side4 ?side5 ?side6 ?side7 ?side8 ?side9 ?side10 ?side11 ?side12 A17.out).mono ?_); (case side1 => repeat (first | exact (Kd.C_below HR0_0.out HB.out) | (with_reducible refine Kd.C_alloc ?_ _) | (with_reducible refine Kd.C_drewN ?_ _) | (with_reducible refine Kd.C_drew ?_))); (case side2 => exact HC0_0.out); (case side3 => repeat (first | exact (Kd.C_below HR0_1.out HB.out) | (with_reducible refine Kd.C_alloc ?_ _) | (with_reducible refine Kd.C_drewN ?_ _) | (with_reducible refine Kd.C_drew ?_))); (case side4 => exact HC0_1.out); (case side5 => repeat (first | exact (Kd.C_below HR0_2.out HB.out) | (with_reducible refine Kd.C_alloc ?_ _) | (with_reducible refine Kd.C_drewN ?_ _) | (with_reducible refine Kd.C_drew ?_))); (case side6 => exact HC0_2.out); (case side7 => repeat (first | exact (Kd.C_below HR0_3.out HB.out) | (with_reducible refine Kd.C_alloc ?_ _) | (with_reducible refine Kd.C_drewN ?_ _) | (with_reducible refine Kd.C_drew ?_))); (case side8 => exact HC0_3.out); (case side9 => repeat (first | exact (Kd.R_reads' HO367.out).2.2 | (with_reducible refine Kd.C_alloc ?_ _) | (with_reducible refine Kd.C_drewN ?_ _) | (with_reducible refine Kd.C_drew ?_))); (case side10 => exact (Kd.R_reads' HO367.out).2.1); (case side11 => repeat (first | exact (Kd.C_below HR3.out HB.out) | (with_reducible refine Kd.C_alloc ?_ _) | (with_reducible refine Kd.C_drewN ?_ _) | (with_reducible refine Kd.C_drew ?_))); (case side12 => exact HC3.out); rintro e w24 ⟨v369, rfl, ho0, hb⟩; refine ⟨_, rfl, ?_⟩; have n0_ := Aside0.mk (Kd.R_elder' (rq HO367.out) (Kd.R_base ho0) hb); have n1_ := Aside0.mk (Kd.R_lower (Kd.R_new' ho0 (Kd.R_lt (rq HO367.out))) (below_size (by repeat (first | (with_reducible first | exact HB.out | apply below_alloc | apply pw_below_drewN | apply below_drew1 | refine below_set ?_ GE362.out) | exact HB.out)))); have n2_ := Aside0.mk (blk_below (bq BK362.out) hb); have n3_ := Aside0.mk (below_step (by repeat (first | (with_reducible first | exact HB.out | apply below_alloc | apply pw_below_drewN | apply below_drew1 | refine below_set ?_ GE362.out) | exact HB.out)) hb); clear HO367; clear BK362; clear HB; have HO367 := n0_; have HO370 := n1_; have BK362 := n2_; have HB := n3_; clear n0_ n1_ n2_ n3_; (try clear hb); (try clear hb2); (try clear hk); (try clear hi); (try clear ho0); have hcz25_0 : w24.cell? ⟨gb362, 0, none⟩ = some (.slice A0_0 l0_0.length c0_0) := (blk_cell BK362.out 0).trans rfl; have hcz25_1 : w24.cell? ⟨gb362, 1, none⟩ = some (.slice A0_1 l0_1.length c0_1) := (blk_cell BK362.out 1).trans rfl; have hcz25_2 : w24.cell? ⟨gb362, 2, none⟩ = some (.slice A0_2 l0_2.length c0_2) := (blk_cell BK362.out 2).trans rfl; have hcz25_3 : w24.cell? ⟨gb362, 3, none⟩ = some (.slice A0_3 l0_3.length c0_3) := (blk_cell BK362.out 3).trans rfl; have hfz25_0 := blk_frozen BK362.out 0; have hfz25_1 := blk_frozen BK362.out 1; have hfz25_2 := blk_frozen BK362.out 2; have hfz25_3 := blk_frozen BK362.out 3; obtain ⟨Ao26, co26, eo26⟩ := Kd.R_slice HO370.out; subst eo26) | ((with_reducible refine gate_callee (f := 91) rfl ?_); refine goesL_ (some 38) rfl rfl Try.func91 (by kernel_rfl) rfl #[.agg #[.slice A0_0 l0_0.length c0_0, .slice A0_1 l0_1.length c0_1, .slice A0_2 l0_2.length c0_2, .slice A0_3 l0_3.length c0_3], .slice Ao23 t365.length co23, .slice A2 l2.length c2, .slice Ao26 t368.length co26] rfl (by (try simp only [List.map_toArray, List.map_cons, List.map_nil]); first | done | rfl | (simp only [List.length_drop, List.length_take]; rfl)) ?_; (with_reducible refine (impl_tagOf.calls kj4 _ _ l0_0 _ _ l0_1 _ _ l0_2 _ _ l0_3 _ _ t365 _ _ l2 _ _ t368 t371 _ ?side1 ?side2 ?side3 ?side4 ?side5 ?side6 ?side7 ?side8 ?side9 ?side10 ?side11 ?side12 ?side13 ?side14 A18.out).mono ?_); (case side1 => repeat (first | exact (Kd.C_below HR0_0.out HB.out) | (with_reducible refine Kd.C_alloc ?_ _) | (with_reducible refine Kd.C_drewN ?_ _) | (with_reducible refine Kd.C_drew ?_))); (case side2 => exact HC0_0.out); (case side3 => repeat (first | exact (Kd.C_below HR0_1.out HB.out) | (with_reducible refine Kd.C_alloc ?_ _) | (with_reducible refine Kd.C_drewN ?_ _) | (with_reducible refine Kd.C_drew ?_))); (case side4 => exact HC0_1.out); (case side5 => repeat (first | exact (Kd.C_below HR0_2.out HB.out) | (with_reducible refine Kd.C_alloc ?_ _) | (with_reducible refine Kd.C_drewN ?_ _) | (with_reducible refine Kd.C_drew ?_))); (case side6 => exact HC0_2.out); (case side7 => repeat (first | exact (Kd.C_below HR0_3.out HB.out) | (with_reducible refine Kd.C_alloc ?_ _) | (with_reducible refine Kd.C_drewN ?_ _) | (with_reducible refine Kd.C_drew ?_))); (case side8 => exact HC0_3.out); (case side9 => repeat (first | exact (Kd.R_reads' HO367.out).2.2 | (with_reducible refine Kd.C_alloc ?_ _) | (with_reducible refine Kd.C_drewN ?_ _) | (with_reducible refine Kd.C_drew ?_))); (case side10 => exact (Kd.R_reads' HO367.out).2.1); (case side11 => repeat (first | exact (Kd.C_below HR2.out HB.out) | (with_reducible refine Kd.C_alloc ?_ _) | (with_reducible refine Kd.C_drewN ?_ _) | (with_reducible refine Kd.C_drew ?_))); (case side12 => exact HC2.out); (case side13 => repeat (first | exact (Kd.R_reads' HO370.out).2.2 | (with_reducible refine Kd.C_alloc ?_ _) | (with_reducible refine Kd.C_drewN ?_ _) | (with_reducible refine Kd.C_drew ?_))); (case side14 => exact (Kd.R_reads' HO370.out).2.1); rintro e w27 ⟨v372, rfl, ho0, hb⟩; refine ⟨_, rfl, ?_⟩; have n0_ := Aside0.mk (Kd.R_elder' (rq HO367.out) (Kd.R_base ho0) hb); have n1_ := Aside0.mk (Kd.R_elder' (rq HO370.out) (Kd.R_base ho0) hb); have n2_ := Aside0.mk (Kd.R_lower (Kd.R_new' (Kd.R_new' ho0 (Kd.R_lt (rq HO367.out))) (Kd.R_lt (rq HO370.out))) (below_size (by repeat (first | (with_reducible first | exact HB.out | apply below_alloc | apply pw_below_drewN | apply below_drew1 | refine below_set ?_ GE362.out) | exact HB.out)))); have n3_ := Aside0.mk (blk_below (bq BK362.out) hb); have n4_ := Aside0.mk (below_step (by repeat (first | (with_reducible first | exact HB.out | apply below_alloc | apply pw_below_drewN | apply below_drew1 | refine below_set ?_ GE362.out) | exact HB.out)) hb); clear HO367; clear HO370; clear BK362; clear HB; have HO367 := n0_; have HO370 := n1_; have HO373 := n2_; have BK362 := n3_; have HB := n4_; clear n0_ n1_ n2_ n3_ n4_; (try clear hb); (try clear hb2); (try clear hk); (try clear hi); (try clear ho0); obtain ⟨Ao29, co29, eo29⟩ := Kd.R_slice HO373.out; subst eo29) | ((with_reducible refine gate_builtin (b := .append) (xs := #[.tmp 33, .tmp 38]) rfl ?_); at_builtin; refine Kd.R_append_rows (Kd.int .u8) (w0 := w) w.heap.size rfl (.tmp 33) (.tmp 38) 22 5 (.int .u8 0) 1 rfl Try.underlying22 info5 rfl (by decide) (by omega) (.slice Ao26 t368.length co26) t368 t371 _ _ _ (fun k_ => some k_ ≠ (.slice Ao23 t365.length co23 : Value).ownBlock ∧ some k_ ≠ (.slice Ao29 t371.length co29 : Value).ownBlock) (fun _ => False) rfl rfl ?aO ?aR (fun _ _ h => h) (fun _ h => h.elim) ?aF ?aB ?aS ?aL ?_; (case aR => repeat (first | exact (Kd.R_reads' HO373.out).2.2 | (with_reducible refine Kd.C_alloc ?_ _) | (with_reducible refine Kd.C_drewN ?_ _) | (with_reducible refine Kd.C_drew ?_))); (case aB => exact (by repeat (first | (with_reducible first | exact HB.out | apply below_alloc | apply pw_below_drewN | apply below_drew1 | refine below_set ?_ GE362.out) | exact HB.out))); (case aF => exact (fun k_ hk => ⟨Kd.fresh' (Kd.R_lt (rq HO367.out)) k_ hk, Kd.fresh' (Kd.R_lt (rq HO373.out)) k_ hk⟩)); (case aO => exact (rq (Kd.R_mono HO370.out (fun _ hk => ⟨hk.1.2, hk.2⟩)))); (case aS => exact (below_size (by repeat (first | (with_reducible first | exact HB.out | apply below_alloc | apply pw_below_drewN | apply below_drew1 | refine below_set ?_ GE362.out) | exact HB.out)))); (case aL => have := LMc19.out; omega); intro v375 w28 ho hb hg hat; rw [← Ny374.out] at ho; have n0_ := Aside0.mk (blk_grown (g := gb362) (o := .cells #[.slice A0_0 l0_0.length c0_0, .slice A0_1 l0_1.length c0_1, .slice A0_2 l0_2.length c0_2, .slice A0_3 l0_3.length c0_3] 24 (0, 0)) (bq BK362.out) hg (Kd.R_ne HO370.out BK362.out (by decide))); have n1_ := Aside0.mk (Kd.R_after (ok := (fun k_ => some k_ ≠ (.slice Ao29 t371.length co29 : Value).ownBlock)) (rq (Kd.R_mono HO367.out (fun _ hk => ⟨hk.2, hk.1.2⟩))) hg hat); have n2_ := Aside0.mk (Kd.R_after (ok := (fun k_ => some k_ ≠ (.slice Ao23 t365.length co23 : Value).ownBlock)) (rq (Kd.R_mono HO373.out (fun _ hk => ⟨hk.1.2, hk.2⟩))) hg hat); have n3_ := Aside0.mk (hb); have n4_ := Aside0.mk (ho); clear BK362; clear HO367; clear HO373; clear HB; clear HO370; have BK362 := n0_; have HO367 := n1_; have HO373 := n2_; have HB := n3_; have HO376 := n4_; clear n0_ n1_ n2_ n3_ n4_; clear ho hb hg hat))
            go_ret2
            exact ⟨_, by first | rfl | (simp [errW_none, errW_some] <;> rfl) | (simp [*, errW_none, errW_some] <;> rfl), by (with_reducible repeat (first | apply Kd.R_alloc | apply Kd.R_drewN | apply Kd.R_drew)); exact Kd.R_mono HO376.out (fun _ hk => trivial), by repeat (first | (with_reducible first | exact HB.out | apply below_alloc | apply pw_below_drewN | apply below_drew1 | refine below_set ?_ GE362.out) | exact HB.out)⟩
          · rw [if_neg c19] at H
            exact absurd H (by simp)

/-! ### impl_Derive: function 74 -/
theorem impl_Derive.reads_of_cells {W : World} {ad : Addr} {xs : List Int} (hm : xs.length ≤ 9223372036854775807) (h : ∀ j (hj : j < xs.length), W.cell? (ad.add j) = some (.int .u8 xs[j])) :
    ReadsInt W .u8 (some ad) xs.length xs := by
  refine ⟨rfl, by omega, fun _ => ⟨ad, rfl, fun j hj => ?_⟩⟩
  have := h j hj
  simp [this, List.getD_eq_getElem?_getD, List.getElem?_eq_getElem hj]
theorem impl_Derive.conv_append {P : Program} {ops : Array Oper} {rest : List Oper} {o : Oper} {a : Act} {Q : Exit → Act → World → Prop}
    (hg : o.guard = none) (s x : Operand) (t : TypeId) (hop : o.op = Op.call { callee := Callee.builtin Builtin.append, args := #[s, x], argTypes := #[t, t] })
    (e : TypeId) (z : Value) (h1 : P.underlying t = some (.slice e)) (hinfo : (P.info? e).map (fun i => (i.zero, i.size, i.bytes)) = some (some z, 1, 1)) (h6 : z.cells.size = 1)
    (w0 : World) (str : ByteArray) (y : Int) (hsz : str.size ≤ 1000)
    (hs : a.eval s = .slice (some ⟨w0.heap.size, 0, none⟩) str.size (grownCap w0 str.size 0 e))
    (hx : a.eval x = .slice (some ⟨(Lib.bytesWorld w0 e str).heap.size, 0, none⟩) 1 1)
    (hK : ∀ A c w' (xs : List Int), xs = bytesOf str ++ [y] → Kd.C (Kd.int .u8) w' A xs.length xs → xs.length ≤ c → (∀ ad, A = some ad → w0.heap.size ≤ ad.block) → Below w0.heap.size w0 w' → w0.heap.size < w'.heap.size → wpList P ops Q rest (a.put o.dst (.slice A xs.length c)) w') :
    wpList P ops Q (o :: rest) a ((Lib.bytesWorld w0 e str).alloc (.cells #[.int .u8 y] e)) := by
  obtain ⟨i, h2, hzz⟩ := Option.map_eq_some_iff.1 hinfo
  simp only [Prod.mk.injEq] at hzz
  obtain ⟨h3, h4, h5⟩ := hzz
  replace hK : ∀ A c w', ReadsInt w' .u8 A (str.size + 1) (bytesOf str ++ [y]) → str.size + 1 ≤ c → (∀ ad, A = some ad → w0.heap.size ≤ ad.block) → Below w0.heap.size w0 w' → w0.heap.size < w'.heap.size → wpList P ops Q rest (a.put o.dst (.slice A (str.size + 1) c)) w' := by
    intro A c w' hr hc
    have hl : (bytesOf str ++ [y]).length = str.size + 1 := by simp [bytesOf_length]
    have := hK A c w' (bytesOf str ++ [y]) rfl (by rw [hl]; exact Kd.C_of_reads (enc := Value.int .u8) (d := 0) hr) (by rw [hl]; exact hc)
    rw [hl] at this
    exact this
  have hbs := Lib.bytesWorld_size w0 e str
  have hcell : ∀ j, j < (Lib.bytesCells w0 e str).size → ((Lib.bytesWorld w0 e str).alloc (.cells #[.int .u8 y] e)).cell? ⟨w0.heap.size, j, none⟩ = some ((Lib.bytesCells w0 e str)[j]!) := by
    intro j hj
    have : ((Lib.bytesWorld w0 e str).alloc (.cells #[.int .u8 y] e)).heap[w0.heap.size]? = some (.cells (Lib.bytesCells w0 e str) e ((Lib.bytesCells w0 e str).size, (Lib.bytesCells w0 e str).size + 1)) := by
      exact (show ((Lib.bytesWorld w0 e str).alloc _).heap[w0.heap.size]? = (Lib.bytesWorld w0 e str).heap[w0.heap.size]? from by simp only [World.alloc]; rw [Array.getElem?_push_lt (by omega)]; simp [hbs]).trans (Lib.bytesWorld_at_new w0 e str)
    simp [World.cell?, this, hj]
  have hfr : ∀ j, j < (Lib.bytesCells w0 e str).size → ((Lib.bytesWorld w0 e str).alloc (.cells #[.int .u8 y] e)).frozen? ⟨w0.heap.size, j, none⟩ = false := by
    intro j hj
    have : ((Lib.bytesWorld w0 e str).alloc (.cells #[.int .u8 y] e)).heap[w0.heap.size]? = some (.cells (Lib.bytesCells w0 e str) e ((Lib.bytesCells w0 e str).size, (Lib.bytesCells w0 e str).size + 1)) := by
      exact (show ((Lib.bytesWorld w0 e str).alloc _).heap[w0.heap.size]? = (Lib.bytesWorld w0 e str).heap[w0.heap.size]? from by simp only [World.alloc]; rw [Array.getElem?_push_lt (by omega)]; simp [hbs]).trans (Lib.bytesWorld_at_new w0 e str)
    simp [World.frozen?, this]
    intro h; omega
  have hge := grownCap_ge w0 str.size 0 e
  have hcs : (Lib.bytesCells w0 e str).size = grownCap w0 str.size 0 e := by
    have : str.data.size = str.size := rfl
    simp [Lib.bytesCells, this]; omega
  have hb0 : Below w0.heap.size w0 ((Lib.bytesWorld w0 e str).alloc (.cells #[.int .u8 y] e)) := below_alloc (bytes_below (Below.refl _ _) (Nat.le_refl _) e str) _
  have hold : ∀ j (hj : j < (bytesOf str).length), (Lib.bytesCells w0 e str)[j]! = .int .u8 (bytesOf str)[j] := by
    intro j hj
    have hj' : j < str.size := by rw [bytesOf_length] at hj; exact hj
    have hj2 : j < str.data.size := hj'
    simp [Lib.bytesCells, bytesOf, Array.getElem!_eq_getD, Array.getD_eq_getD_getElem?, Array.getElem?_append, hj']
  have hlen := bytesOf_length str
  refine wpList_append_arg _ hg s x t hop e i z 1 1 h1 h2 h3 h4 h5 h6 (by decide) w0.heap.size 0 str.size (grownCap w0 str.size 0 e) ((bytesOf str).map (.int .u8)) hs (by simp [hlen]) ?olds
    ⟨(Lib.bytesWorld w0 e str).heap.size, 0, none⟩ 1 1 [.int .u8 y] hx (by simp) ?news (by simp [Value.oneCell']) ?spare (by simp only [maxLen]; omega) (by omega) ?room ?grow
  case olds =>
    intro j u hj
    have hj' : j < (bytesOf str).length := by
      have := (List.getElem?_eq_some_iff.1 hj).1; simpa using this
    rw [Nat.zero_add, hcell j (by rw [hcs]; omega), hold j hj', ← hj]
    simp [List.getElem?_eq_getElem hj']
  case news =>
    intro j u hj
    have hj' : j = 0 := by
      have := (List.getElem?_eq_some_iff.1 hj).1; simp at this; omega
    subst hj'
    simp at hj
    subst hj
    rw [Addr.add_lit]
    have hh : ((Lib.bytesWorld w0 e str).alloc (.cells #[.int .u8 y] e)).heap[(Lib.bytesWorld w0 e str).heap.size]? = some (.cells #[.int .u8 y] e) := Array.getElem?_push_size
    unfold World.cell?
    simp only [hh]
    rfl
  case spare =>
    intro hc j hj
    simp at hj
    subst hj
    refine ⟨?_, hfr _ (by rw [hcs]; omega)⟩
    rw [hcell _ (by rw [hcs]; omega)]; rfl
  case room =>
    intro hc
    have hin := World.cell?_setCells_in w0.heap.size [.int .u8 y] (0 + str.size * 1) ((Lib.bytesWorld w0 e str).alloc (.cells #[.int .u8 y] e)) (fun j hj => by
      simp at hj; subst hj
      rw [hcell _ (by rw [hcs]; omega)]; rfl)
    refine hK _ _ _ ?_ hc (fun ad h => by cases h; exact Nat.le_refl _) ?_ ?_
    · have h := impl_Derive.reads_of_cells (W := ((Lib.bytesWorld w0 e str).alloc (.cells #[.int .u8 y] e)).setCells w0.heap.size (0 + str.size * 1) [.int .u8 y]) (ad := ⟨w0.heap.size, 0, none⟩) (xs := bytesOf str ++ [y]) (by simp [hlen]; omega) (fun j hj => by
        rw [Addr.add_lit]
        by_cases hj1 : j < (bytesOf str).length
        · rw [World.cell?_setCells_out _ _ _ _ _ (fun _ _ => Or.inl (by simp; omega)), Nat.zero_add, hcell j (by rw [hcs]; omega), hold j hj1, List.getElem_append_left hj1]
        · have hj2 : j = str.size := by simp [hlen] at hj; omega
          subst hj2
          have := hin 0 (by simp)
          simp at this
          rw [Nat.zero_add]
          simp [hlen] at this ⊢
          rw [this])
      simpa [hlen] using h
    · exact hb0.setCell (Nat.le_refl _) _
    · have := hb0.size
      have e1 : ((((Lib.bytesWorld w0 e str).alloc (.cells #[.int .u8 y] e)).setCells w0.heap.size (0 + str.size * 1) [.int .u8 y])).heap.size = ((Lib.bytesWorld w0 e str).alloc (.cells #[.int .u8 y] e)).heap.size := World.size_setCell ..
      have e2 : ((Lib.bytesWorld w0 e str).alloc (.cells #[.int .u8 y] e)).heap.size = w0.heap.size + 2 := (Array.size_push ..).trans (by rw [hbs])
      omega
  case grow =>
    intro hc v' w' ho hg'
    have e2 : ((Lib.bytesWorld w0 e str).alloc (.cells #[.int .u8 y] e)).heap.size = w0.heap.size + 2 := (Array.size_push ..).trans (by rw [hbs])
    have ho' : w'.ownsRow ((Lib.bytesWorld w0 e str).alloc (.cells #[.int .u8 y] e)).heap.size e 1 v' (str.size + 1) (nums .u8 (bytesOf str ++ [y])) := by
      rw [nums_append]; exact ho
    obtain ⟨A, c, rfl, hr⟩ := own_reads ho'
    have hle := own_le ho'
    have hbase := own_base ho'
    refine hK A c w' hr hle (fun ad h => ?_) (pw_below_grown hb0 none (by omega) hg' (by simp)) ?_
    · subst h
      rcases ho'.2 with ⟨h, _⟩ | ⟨g, cap, cur, h, hb, _⟩
      · cases h
      · cases h; simp only; omega
    · have := hg'.size; omega
def impl_Derive.l0 : Nat → List Int → ByteArray → Int → Int → List Int → Option (List Int)
  | 0, _, _, _, _, _ => none
  | k + 1, l0, a1, a2, i, o =>
    if (o.length : Int) < a2 then
      (if 0 ≤ i ∧ i < 100 ∧ o.length ≤ 1000 then (impl_digest.f k l0 (bytesOf a1 ++ [i % 256])).bind fun t => if t.length ≤ 100 then impl_Derive.l0 k l0 a1 a2 (i + 1) (o ++ t) else none else none)
    else (if 0 ≤ a2 then some (o.take a2.toNat) else none)
def impl_Derive.f (k : Nat) (l0 : List Int) (a1 : ByteArray) (a2 : Int) : Option (List Int) :=
  if l0.length ≠ 16 then some [] else if 32 < a1.size then some [] else if a2 < 1 then some [] else if 64 < a2 then some [] else impl_Derive.l0 k l0 a1 a2 0 []
theorem impl_Derive.mono_l : ∀ k, (∀ y0 y1 y2 y3 y4, LeO (impl_Derive.l0 k y0 y1 y2 y3 y4) (impl_Derive.l0 (k + 1) y0 y1 y2 y3 y4))
  | 0 => fun _ _ _ _ _ r h => by simp [impl_Derive.l0] at h
  | k + 1 => by
    have ih0 := impl_Derive.mono_l k
    intro y0 y1 y2 y3 y4
    unfold impl_Derive.l0
    repeat' first
      | (with_reducible exact ih0 _ _ _ _ _)
      | (with_reducible exact impl_digest.mono _ _ _)
      | (with_reducible exact LeO.refl _)
      | (with_reducible exact LeO.none _)
      | (with_reducible refine LeO.ite ?_ ?_)
      | (with_reducible refine LeO.bind ?_ (fun _ => ?_))
theorem impl_Derive.mono : ∀ a0 a1 a2 k, LeO (impl_Derive.f k a0 a1 a2) (impl_Derive.f (k + 1) a0 a1 a2) := by
  intro a0 a1 a2 k
  unfold impl_Derive.f
  repeat' first
      | (with_reducible exact impl_Derive.mono_l _ _ _ _ _ _)
      | (with_reducible exact LeO.refl _)
      | (with_reducible exact LeO.none _)
      | (with_reducible refine LeO.ite ?_ ?_)
set_option maxHeartbeats 8000000 in
set_option maxRecDepth 100000 in
theorem impl_Derive.calls (k : Nat) (A0 : Option Addr) (c0 : Nat) (l0 : List Int) (a1 : ByteArray) (a2 : Int) (r : List Int) (w : World) (hr0 : Kd.C (Kd.int .u8) w A0 l0.length l0) (hc0 : l0.length ≤ c0) (h : impl_Derive.f k l0 a1 a2 = some r) :
    Calls Try.prog 74 #[.slice A0 l0.length c0, .string a1, .int .i64 a2] w fun e w' => ∃ v0_ : Value, e = .returned (v0_) ∧ Kd.R (Kd.int .u8) 5 w' w.heap.size (fun _ => True) v0_ r ∧ Below w.heap.size w w' := by
  have HR0 := Aside0.mk hr0
  have HC0 := Aside0.mk hc0
  clear hr0 hc0
  have HB := Aside0.mk (Below.refl w.heap.size w)
  unfold impl_Derive.f at h
  by_cases c1 : l0.length ≠ 16
  · rw [if_pos c1] at h
    obtain rfl := Option.some.inj h
    have b1 : ((l0.length : Int) != 16) = true := bne_iff_ne.mpr (by omega)
    go_enter Try.func74, Try.ntmps74
    go_wp2
    go_ret
    exact ⟨_, rfl, Kd.R_nil _ _ _ _ _, HB.out⟩
  · rw [if_neg c1] at h
    have b1 : ((l0.length : Int) != 16) = false := bne_eq_false_iff_eq.mpr (by omega)
    by_cases c2 : 32 < a1.size
    · rw [if_pos c2] at h
      obtain rfl := Option.some.inj h
      have b2 : decide ((32 : Int) < (a1.size : Int)) = true := decide_eq_true (by omega)
      have b2n : decide (32 < a1.size) = true := decide_eq_true c2
      clear c1
      go_enter Try.func74, Try.ntmps74
      go_wp2
      go_ret
      exact ⟨_, rfl, Kd.R_nil _ _ _ _ _, HB.out⟩
    · rw [if_neg c2] at h
      have b2 : decide ((32 : Int) < (a1.size : Int)) = false := decide_eq_false (by omega)
      have b2n : decide (32 < a1.size) = false := decide_eq_false c2
      by_cases c3 : a2 < 1
      · rw [if_pos c3] at h
        obtain rfl := Option.some.inj h
        have b3 : decide (a2 < 1) = true := decide_eq_true c3
        clear c1
        go_enter Try.func74, Try.ntmps74
        go_wp2
        go_ret
        exact ⟨_, rfl, Kd.R_nil _ _ _ _ _, HB.out⟩
      · rw [if_neg c3] at h
        have b3 : decide (a2 < 1) = false := decide_eq_false c3
        by_cases c4 : 64 < a2
        · rw [if_pos c4] at h
          obtain rfl := Option.some.inj h
          have b4 : decide (64 < a2) = true := decide_eq_true c4
          clear c1
          go_enter Try.func74, Try.ntmps74
          go_wp2
          go_ret
          exact ⟨_, rfl, Kd.R_nil _ _ _ _ _, HB.out⟩
        · rw [if_neg c4] at h
          have b4 : decide (64 < a2) = false := decide_eq_false c4
          have HD := Aside0.mk h
          have HL := Aside0.mk (show l0.length = 16 from by omega)
          have HS := Aside0.mk (show a1.size ≤ 32 from by omega)
          have h1 : 1 ≤ a2 := by omega
          have h64 : a2 ≤ 64 := by omega
          clear h c1
          go_enter Try.func74, Try.ntmps74
          go_wp2
          obtain ⟨W1, hW1⟩ : ∃ W_ : World, W_ = w.alloc (.cells #[] 5) := ⟨_, rfl⟩
          have HO1 : Aside0 (Kd.R (Kd.int .u8) 5 W1 w.heap.size (fun _ => True) (.slice (some ⟨w.heap.size, 0, none⟩) 0 0) []) := ⟨by
            rw [hW1]
            exact ⟨fun k hk => trivial, [], own_lit w w.heap.size 5 .u8 [] (Nat.le_refl _) (by simp), Reps.none _ _⟩⟩
          have HB1 : Aside0 (Below w.heap.size w W1) := ⟨by rw [hW1]; exact below_alloc HB.out _⟩
          rw [← hW1]
          clear hW1
          go_loopg [7, 8] k (fun kq v7 v8 w' => ∃ (vo : Value) (o : List Int) (i : Int), v7 = vo ∧ v8 = .int .i64 i ∧ Aside0 (impl_Derive.l0 kq l0 a1 a2 i o = some r) ∧ Aside0 (kq ≤ k) ∧ Aside0 (Kd.R (Kd.int .u8) 5 w' w.heap.size (fun _ => True) vo o) ∧ Aside0 (Below w.heap.size w w'))
          case atStart => exact ⟨_, [], 0, rfl, rfl, HD, ⟨Nat.le_refl _⟩, HO1, HB1⟩
          case round =>
            obtain ⟨vo, o, i, rfl, rfl, HA, HK, HO, HBr⟩ := hrel
            cases gk with
            | zero => exact absurd HA.out (by simp [impl_Derive.l0])
            | succ m =>
            obtain ⟨Ao, co, rfl⟩ := Kd.R_slice HO.out
            have ha := HA.out
            clear HA
            simp only [impl_Derive.l0] at ha
            by_cases d1 : (o.length : Int) < a2
            · rw [if_pos d1] at ha
              have e1 : decide ((o.length : Int) < a2) = true := decide_eq_true d1
              by_cases d2 : 0 ≤ i ∧ i < 100 ∧ o.length ≤ 1000
              · rw [if_pos d2] at ha
                obtain ⟨d3, d4, d5⟩ := d2
                obtain ⟨t, ht, ha⟩ := Option.bind_eq_some_iff.1 ha
                by_cases d6 : t.length ≤ 100
                · rw [if_pos d6] at ha
                  have HA := Aside0.mk ha
                  have HT := Aside0.mk ht
                  clear ha
                  have kb := fun W => print_bytes (P := Try.prog) 9 22 5 Try.underlying9 Try.underlying22 Try.underlying5 a1 W
                  go_wp2_with (first | ((with_reducible refine gate_builtin (b := .append) (xs := #[.tmp 35, .tmp 38]) rfl ?_); at_builtin; refine impl_Derive.conv_append rfl (.tmp 35) (.tmp 38) 22 rfl 5 (.int .u8 0) Try.underlying22 info5 rfl _ a1 _ (by have := HS.out; omega) rfl rfl ?_; intro A1 c1 w1 xs hxs hC hc hfar hb hlt; have hxs1 := Aside0.mk hxs; have hC1 := Aside0.mk hC; have hc1 := Aside0.mk hc; have hb1 := Aside0.mk hb; clear hxs hC hc hb hfar hlt) | fail)
                  have hxs := hxs1.out
                  have hC := hC1.out
                  have hc := hc1.out
                  have hb := hb1.out
                  rw [show i % 256 = i by omega, ← hxs] at ht
                  have HT1 := Aside0.mk ht
                  have HB2 := Aside0.mk (below_then HBr.out HBr.out.size hb)
                  have HX1 := Aside0.mk hC
                  have HX2 := Aside0.mk hc
                  have HO2 := Aside0.mk (Kd.R_below HO.out hb)
                  have HR2 := Aside0.mk (Kd.C_below HR0.out (below_then HBr.out HBr.out.size hb))
                  clear ht hxs hC hc hb kb HO HBr HT hxs1 hC1 hc1 hb1
                  go_wp2_with (fail)
                  refine (impl_digest.calls m _ _ l0 _ _ xs t _ HR2.out HC0.out HX1.out HX2.out HT1.out).mono ?_
                  rintro e w2 ⟨v2, rfl, hR3, hB3⟩
                  obtain ⟨At, ct, rfl, hl3, hC3⟩ := Kd.R_reads hR3
                  have HB3 := Aside0.mk (below_then HB2.out HB2.out.size hB3)
                  have HO3 := Aside0.mk (Kd.R_below HO2.out hB3)
                  have HX3 := Aside0.mk hC3
                  clear hR3 hB3 hl3 hC3 HO2 HB2 HR2 HX1 HX2
                  go_wp2_with (first | ((with_reducible refine gate_builtin (b := .append) (xs := #[.tmp 32, .tmp 40]) rfl ?_); at_builtin; refine Kd.R_append_rows (Kd.int .u8) (w0 := w) w.heap.size rfl (.tmp 32) (.tmp 40) 22 5 (.int .u8 0) 1 rfl Try.underlying22 info5 rfl (by decide) (by omega) _ o t _ _ _ (fun _ => True) (fun _ => False) rfl rfl HO3.out HX3.out (fun _ _ h => h) (fun _ h => h.elim) (fun _ _ => trivial) HB3.out HB3.out.size (by omega) ?_))
                  intro v4 w4 ho4 hb4 hg4 hat4
                  obtain ⟨A4, c4, rfl⟩ := Kd.R_slice ho4
                  have HO4 := Aside0.mk ho4
                  have HB4 := Aside0.mk hb4
                  clear ho4 hb4 hg4 hat4 HO3 HB3 HX3
                  try go_wp2
                  go_roundg m
                  case measure => omega
                  case rel => exact ⟨_, _, _, rfl, rfl, HA, ⟨by have := HK.out; omega⟩, HO4, HB4⟩
                · rw [if_neg d6] at ha; exact absurd ha (by simp)
              · rw [if_neg d2] at ha; exact absurd ha (by simp)
            · rw [if_neg d1, if_pos (by omega)] at ha
              obtain rfl := Option.some.inj ha
              have e1 : decide ((o.length : Int) < a2) = false := decide_eq_false d1
              have hn : (o.take a2.toNat).length = a2.toNat := by rw [List.length_take]; omega
              have HX := Aside0.mk (Kd.C_take (Kd.R_reads' HO.out).2.2 (show a2.toNat ≤ o.length by omega))
              have hco := (Kd.R_reads' HO.out).2.1
              have HW5 := Aside0.mk (below_alloc HBr.out (.cells #[] 5))
              go_wp2_with (first | ((with_reducible refine gate_builtin (b := .append) (xs := #[.tmp 42, .tmp 45]) rfl ?_); at_builtin; refine Kd.R_append_rows (Kd.int .u8) (w0 := w) w.heap.size rfl (.tmp 42) (.tmp 45) 22 5 (.int .u8 0) 1 rfl Try.underlying22 info5 rfl (by decide) (by omega) _ [] (o.take a2.toNat) _ _ _ (fun _ => True) (fun _ => False) rfl rfl ?aO ?aR (fun _ _ h => h) (fun _ h => h.elim) (fun _ _ => trivial) ?aB ?aS (by simp; omega) ?_; (case aO => exact ⟨fun _ _ => trivial, [], own_lit _ w.heap.size 5 .u8 [] (HBr.out.size) (by simp), Reps.none _ _⟩); (case aR => have := Kd.C_alloc HX.out (.cells #[] 5); rw [hn] at this; exact this); (case aB => exact HW5.out); (case aS => exact HW5.out.size); intro v5 w5 ho5 hb5 hg5 hat5; have HO5 := Aside0.mk ho5; have HB5 := Aside0.mk hb5; clear ho5 hb5 hg5 hat5) | fail)
              go_ret
              exact ⟨_, rfl, by simpa using HO5.out, HB5.out⟩

/-! ### impl_KeysOf: function 73 -/
def impl_KeysOf.f (k : Nat) (l0 : List Int) : Option (List Int × List Int × List Int × List Int) := if (l0.length : Int) = 16 then ((some (([] : List Int) : List Int)).bind fun y378 => (if y378.length + l0.length < 140737488355328 then ((impl_Derive.f k l0 (⟨#[107, 101, 121]⟩ : ByteArray) 16).bind fun t384 => ((impl_Derive.f k l0 (⟨#[105, 118]⟩ : ByteArray) 8).bind fun t387 => ((impl_Derive.f k l0 (⟨#[109, 97, 115, 107]⟩ : ByteArray) 16).bind fun t390 => (some ((y378 ++ l0), t384, t387, t390))))) else (none))) else (some (([] : List Int), ([] : List Int), ([] : List Int), ([] : List Int)))
theorem impl_KeysOf.mono : ∀ a0 k, LeO (impl_KeysOf.f k a0) (impl_KeysOf.f (k + 1) a0) := by
  intro a0 k
  unfold impl_KeysOf.f
  repeat' first
      | (with_reducible exact impl_Derive.mono _ _ _ _)
      | (with_reducible exact LeO.refl _)
      | (with_reducible exact LeO.none _)
      | (with_reducible refine LeO.ite ?_ ?_)
      | (with_reducible refine LeO.bind ?_ (fun _ => ?_))
      | exact impl_Derive.mono _ _ _ _
      | exact LeO.none _
      | refine LeO.ite ?_ ?_
      | refine LeO.bind ?_ (fun _ => ?_)
set_option maxHeartbeats 8000000 in
set_option maxRecDepth 100000 in
theorem impl_KeysOf.calls (k : Nat) (A0 : Option Addr) (c0 : Nat) (l0 : List Int) (r1 : List Int) (r2 : List Int) (r3 : List Int) (r4 : List Int) (w : World) (hr0 : Kd.C (Kd.int .u8) w A0 l0.length l0) (hc0 : l0.length ≤ c0) (h : impl_KeysOf.f k l0 = some (r1, r2, r3, r4)) :
    Calls Try.prog 73 #[.slice A0 l0.length c0] w fun e w' => ∃ v0_ v1_ v2_ v3_ : Value, e = .returned (.agg #[v0_, v1_, v2_, v3_]) ∧ Kd.R (Kd.int .u8) 5 w' w.heap.size (fun k_ => some k_ ≠ (v1_ : Value).ownBlock ∧ some k_ ≠ (v2_ : Value).ownBlock ∧ some k_ ≠ (v3_ : Value).ownBlock) v0_ r1 ∧ Kd.R (Kd.int .u8) 5 w' w.heap.size (fun k_ => some k_ ≠ (v0_ : Value).ownBlock ∧ some k_ ≠ (v2_ : Value).ownBlock ∧ some k_ ≠ (v3_ : Value).ownBlock) v1_ r2 ∧ Kd.R (Kd.int .u8) 5 w' w.heap.size (fun k_ => some k_ ≠ (v0_ : Value).ownBlock ∧ some k_ ≠ (v1_ : Value).ownBlock ∧ some k_ ≠ (v3_ : Value).ownBlock) v2_ r3 ∧ Kd.R (Kd.int .u8) 5 w' w.heap.size (fun k_ => some k_ ≠ (v0_ : Value).ownBlock ∧ some k_ ≠ (v1_ : Value).ownBlock ∧ some k_ ≠ (v2_ : Value).ownBlock) v3_ r4 ∧ Below w.heap.size w w' := by
  have hu24 := Try.underlying24
  have HR0 := Aside0.mk hr0
  have HC0 := Aside0.mk hc0
  clear hr0 hc0
  have HB := Aside0.mk (Below.refl w.heap.size w)
  have H : (if (l0.length : Int) = 16 then ((some (([] : List Int) : List Int)).bind fun y378 => (if y378.length + l0.length < 140737488355328 then ((impl_Derive.f k l0 (⟨#[107, 101, 121]⟩ : ByteArray) 16).bind fun t384 => ((impl_Derive.f k l0 (⟨#[105, 118]⟩ : ByteArray) 8).bind fun t387 => ((impl_Derive.f k l0 (⟨#[109, 97, 115, 107]⟩ : ByteArray) 16).bind fun t390 => (some ((y378 ++ l0), t384, t387, t390))))) else (none))) else (some (([] : List Int), ([] : List Int), ([] : List Int), ([] : List Int)))) = some (r1, r2, r3, r4) := h
  clear h
  by_cases c2 : (l0.length : Int) = 16
  · rw [if_pos c2] at H
    have c2b0 : ((l0.length : Int) == 16) = true := beq_iff_eq.mpr c2
    have c2b1 : ((l0.length : Int) != 16) = false := bne_eq_false_iff_eq.mpr c2
    clear c2
    obtain ⟨y378, hy378⟩ : ∃ y_ : List Int, y_ = (([] : List Int)) := ⟨_, rfl⟩
    replace H : (if y378.length + l0.length < 140737488355328 then ((impl_Derive.f k l0 (⟨#[107, 101, 121]⟩ : ByteArray) 16).bind fun t384 => ((impl_Derive.f k l0 (⟨#[105, 118]⟩ : ByteArray) 8).bind fun t387 => ((impl_Derive.f k l0 (⟨#[109, 97, 115, 107]⟩ : ByteArray) 16).bind fun t390 => (some ((y378 ++ l0), t384, t387, t390))))) else (none)) = some (r1, r2, r3, r4) := by first | (rw [hy378]; with_reducible exact H) | (have H2_ := (Option.bind_some _ _).symm.trans H; rw [hy378]; with_reducible exact H2_) | (have H2_ := (Option.bind_some _ _).symm.trans H; with_reducible exact H2_) | with_reducible exact H | (rw [hy378]; exact H) | exact H
    have Ny378 := Aside0.mk hy378
    clear hy378
    by_cases c3 : y378.length + l0.length < 140737488355328
    · rw [if_pos c3] at H
      have LMc3 := Aside0.mk c3
      clear c3
      obtain ⟨y381, hy381⟩ : ∃ y_ : List Int, y_ = (y378 ++ l0) := ⟨_, rfl⟩
      replace H : ((impl_Derive.f k l0 (⟨#[107, 101, 121]⟩ : ByteArray) 16).bind fun t384 => ((impl_Derive.f k l0 (⟨#[105, 118]⟩ : ByteArray) 8).bind fun t387 => ((impl_Derive.f k l0 (⟨#[109, 97, 115, 107]⟩ : ByteArray) 16).bind fun t390 => (some (y381, t384, t387, t390))))) = some (r1, r2, r3, r4) := by first | (rw [hy381]; with_reducible exact H) | (have H2_ := (Option.bind_some _ _).symm.trans H; rw [hy381]; with_reducible exact H2_) | (have H2_ := (Option.bind_some _ _).symm.trans H; with_reducible exact H2_) | with_reducible exact H | (rw [hy381]; exact H) | exact H
      have Ny381 := Aside0.mk hy381
      clear hy381
      replace H := Option.bind_eq_some_iff.mp H
      obtain ⟨t384, A40, H⟩ := H
      replace H : ((impl_Derive.f k l0 (⟨#[105, 118]⟩ : ByteArray) 8).bind fun t387 => ((impl_Derive.f k l0 (⟨#[109, 97, 115, 107]⟩ : ByteArray) 16).bind fun t390 => (some (y381, t384, t387, t390)))) = some (r1, r2, r3, r4) := H
      have A4 := Aside0.mk A40
      clear A40
      replace H := Option.bind_eq_some_iff.mp H
      obtain ⟨t387, A50, H⟩ := H
      replace H : ((impl_Derive.f k l0 (⟨#[109, 97, 115, 107]⟩ : ByteArray) 16).bind fun t390 => (some (y381, t384, t387, t390))) = some (r1, r2, r3, r4) := H
      have A5 := Aside0.mk A50
      clear A50
      replace H := Option.bind_eq_some_iff.mp H
      obtain ⟨t390, A60, H⟩ := H
      replace H : (some (y381, t384, t387, t390)) = some (r1, r2, r3, r4) := H
      have A6 := Aside0.mk A60
      clear A60
      simp only [Option.some.injEq, Prod.mk.injEq] at H
      obtain ⟨rfl, rfl, rfl, rfl⟩ := H
      go_enter Try.func73, Try.ntmps73
      go_wp2_with (first | ((with_reducible refine gate_dst (N := 2) rfl ?_); refine box_event ?hg (N := 2) ?hd (cs := #[.slice none 0 0, .slice none 0 0, .slice none 0 0, .slice none 0 0]) (t := 24) ?hr ?_; (case hd => rfl); (case hg => rfl); (case hr => first | (go_simp; done) | (go_simp; rfl)); intro gb377 hg w7 hbox hb; have n0_ := Aside0.mk (below_step (hq HB.out) hb); have n1_ := Aside0.mk (hbox); have n2_ := Aside0.mk ((by rw [hg]; exact (below_size (hq HB.out)) : w.heap.size ≤ gb377)); have n3_ := Aside0.mk ((by rw [hg]; exact (below_size (hq HB.out)) : w.heap.size ≤ gb377)); clear HB; have HB := n0_; have BK377 := n1_; have GW377 := n2_; have GE377 := n3_; clear n0_ n1_ n2_ n3_; clear hb hbox hg) | ((with_reducible refine gate_dst (N := 7) rfl ?_); refine Kd.R_lit (Kd.int .u8) _ 5 ?hg (N := 7) ?hd (xs := ([] : List Int)) (inner := []) (ok := fun _ => True) (okp := fun _ => True) ?hr ?hp (fun _ hk => hk) trivial (Below.refl _ _) (Nat.le_refl _) (by simp) ?_; (case hd => rfl); (case hg => rfl); (case hr => first | (go_simp; done) | (go_simp; rfl)); (case hp => exact (Reps.none _ _)); intro v379 w8 ho9 hb hg_ hnew_; clear hg_ hnew_; (first | rw [← Ny378.out] at ho9 | (simp only [Int.reduceToNat] at ho9; rw [← Ny378.out] at ho9)); have n0_ := Aside0.mk (Kd.R_lower ho9 (below_size (by repeat (first | (with_reducible first | exact HB.out | apply below_alloc | apply pw_below_drewN | apply below_drew1 | refine below_set ?_ GE377.out) | exact HB.out)))); have n1_ := Aside0.mk (blk_below (bq BK377.out) hb); have n2_ := Aside0.mk (below_step (by repeat (first | (with_reducible first | exact HB.out | apply below_alloc | apply pw_below_drewN | apply below_drew1 | refine below_set ?_ GE377.out) | exact HB.out)) hb); clear BK377; clear HB; have HO380 := n0_; have BK377 := n1_; have HB := n2_; clear n0_ n1_ n2_; clear hb ho9) | ((with_reducible refine gate_builtin (b := .append) (xs := #[.tmp 7, .tmp 8]) rfl ?_); at_builtin; refine Kd.R_append_rows (Kd.int .u8) (w0 := w) w.heap.size rfl (.tmp 7) (.tmp 8) 22 5 (.int .u8 0) 1 rfl Try.underlying22 info5 rfl (by decide) (by omega) v379 y378 l0 _ _ _ (fun _ => True) (fun _ => False) rfl rfl ?aO ?aR (fun _ _ h => h) (fun _ h => h.elim) ?aF ?aB ?aS ?aL ?_; (case aR => repeat (first | exact (Kd.C_below HR0.out HB.out) | (with_reducible refine Kd.C_alloc ?_ _) | (with_reducible refine Kd.C_drewN ?_ _) | (with_reducible refine Kd.C_drew ?_))); (case aB => exact (by repeat (first | (with_reducible first | exact HB.out | apply below_alloc | apply pw_below_drewN | apply below_drew1 | refine below_set ?_ GE377.out) | exact HB.out))); (case aF => exact (fun _ _ => trivial)); (case aO => exact (rq HO380.out)); (case aS => exact (below_size (by repeat (first | (with_reducible first | exact HB.out | apply below_alloc | apply pw_below_drewN | apply below_drew1 | refine below_set ?_ GE377.out) | exact HB.out)))); (case aL => have := LMc3.out; omega); intro v382 w10 ho hb hg hat; rw [← Ny381.out] at ho; have n0_ := Aside0.mk (blk_grown (g := gb377) (o := .cells #[.slice none 0 0, .slice none 0 0, .slice none 0 0, .slice none 0 0] 24 (0, 0)) (bq BK377.out) hg (Kd.R_ne HO380.out BK377.out (by decide))); have n1_ := Aside0.mk (hb); have n2_ := Aside0.mk (ho); clear BK377; clear HB; clear HO380; have BK377 := n0_; have HB := n1_; have HO383 := n2_; clear n0_ n1_ n2_; clear ho hb hg hat) | ((with_reducible refine gate_callee (f := 74) rfl ?_); refine goesL_ (some 11) rfl rfl Try.func74 (by kernel_rfl) rfl #[.slice A0 l0.length c0, .string (⟨#[107, 101, 121]⟩ : ByteArray), .int .i64 16] rfl (by (try simp only [List.map_toArray, List.map_cons, List.map_nil]); first | done | rfl | (simp only [List.length_drop, List.length_take]; rfl)) ?_; (with_reducible refine (impl_Derive.calls k _ _ l0 (⟨#[107, 101, 121]⟩ : ByteArray) 16 t384 _ ?side1 ?side2 A4.out).mono ?_); (case side1 => repeat (first | exact (Kd.C_below HR0.out HB.out) | (with_reducible refine Kd.C_alloc ?_ _) | (with_reducible refine Kd.C_drewN ?_ _) | (with_reducible refine Kd.C_drew ?_))); (case side2 => exact HC0.out); rintro e w11 ⟨v385, rfl, ho0, hb⟩; refine ⟨_, rfl, ?_⟩; have n0_ := Aside0.mk (Kd.R_elder' (rq HO383.out) (Kd.R_base ho0) hb); have n1_ := Aside0.mk (Kd.R_lower (Kd.R_new' ho0 (Kd.R_lt (rq HO383.out))) (below_size (by repeat (first | (with_reducible first | exact HB.out | apply below_alloc | apply pw_below_drewN | apply below_drew1 | refine below_set ?_ GE377.out) | exact HB.out)))); have n2_ := Aside0.mk (blk_below (bq BK377.out) hb); have n3_ := Aside0.mk (below_step (by repeat (first | (with_reducible first | exact HB.out | apply below_alloc | apply pw_below_drewN | apply below_drew1 | refine below_set ?_ GE377.out) | exact HB.out)) hb); clear HO383; clear BK377; clear HB; have HO383 := n0_; have HO386 := n1_; have BK377 := n2_; have HB := n3_; clear n0_ n1_ n2_ n3_; (try clear hb); (try clear hb2); (try clear hk); (try clear hi); (try clear ho0)) | ((with_reducible refine gate_callee (f := 74) rfl ?_); refine goesL_ (some 13) rfl rfl Try.func74 (by kernel_rfl) rfl #[.slice A0 l0.length c0, .string (⟨#[105, 118]⟩ : ByteArray), .int .i64 8] rfl (by (try simp only [List.map_toArray, List.map_cons, List.map_nil]); first | done | rfl | (simp only [List.length_drop, List.length_take]; rfl)) ?_; (with_reducible refine (impl_Derive.calls k _ _ l0 (⟨#[105, 118]⟩ : ByteArray) 8 t387 _ ?side1 ?side2 A5.out).mono ?_); (case side1 => repeat (first | exact (Kd.C_below HR0.out HB.out) | (with_reducible refine Kd.C_alloc ?_ _) | (with_reducible refine Kd.C_drewN ?_ _) | (with_reducible refine Kd.C_drew ?_))); (case side2 => exact HC0.out); rintro e w12 ⟨v388, rfl, ho0, hb⟩; refine ⟨_, rfl, ?_⟩; have n0_ := Aside0.mk (Kd.R_elder' (rq HO383.out) (Kd.R_base ho0) hb); have n1_ := Aside0.mk (Kd.R_elder' (rq HO386.out) (Kd.R_base ho0) hb); have n2_ := Aside0.mk (Kd.R_lower (Kd.R_new' (Kd.R_new' ho0 (Kd.R_lt (rq HO383.out))) (Kd.R_lt (rq HO386.out))) (below_size (by repeat (first | (with_reducible first | exact HB.out | apply below_alloc | apply pw_below_drewN | apply below_drew1 | refine below_set ?_ GE377.out) | exact HB.out)))); have n3_ := Aside0.mk (blk_below (bq BK377.out) hb); have n4_ := Aside0.mk (below_step (by repeat (first | (with_reducible first | exact HB.out | apply below_alloc | apply pw_below_drewN | apply below_drew1 | refine below_set ?_ GE377.out) | exact HB.out)) hb); clear HO383; clear HO386; clear BK377; clear HB; have HO383 := n0_; have HO386 := n1_; have HO389 := n2_; have BK377 := n3_; have HB := n4_; clear n0_ n1_ n2_ n3_ n4_; (try clear hb); (try clear hb2); (try clear hk); (try clear hi); (try clear ho0)) | ((with_reducible refine gate_callee (f := 74) rfl ?_); refine goesL_ (some 15) rfl rfl Try.func74 (by kernel_rfl) rfl #[.slice A0 l0.length c0, .string (⟨#[109, 97, 115, 107]⟩ : ByteArray), .int .i64 16] rfl (by (try simp only [List.map_toArray, List.map_cons, List.map_nil]); first | done | rfl | (simp only [List.length_drop, List.length_take]; rfl)) ?_; (with_reducible refine (impl_Derive.calls k _ _ l0 (⟨#[109, 97, 115, 107]⟩ : ByteArray) 16 t390 _ ?side1 ?side2 A6.out).mono ?_); (case side1 => repeat (first | exact (Kd.C_below HR0.out HB.out) | (with_reducible refine Kd.C_alloc ?_ _) | (with_reducible refine Kd.C_drewN ?_ _) | (with_reducible refine Kd.C_drew ?_))); (case side2 => exact HC0.out); rintro e w13 ⟨v391, rfl, ho0, hb⟩; refine ⟨_, rfl, ?_⟩; have n0_ := Aside0.mk (Kd.R_elder' (rq HO383.out) (Kd.R_base ho0) hb); have n1_ := Aside0.mk (Kd.R_elder' (rq HO386.out) (Kd.R_base ho0) hb); have n2_ := Aside0.mk (Kd.R_elder' (rq HO389.out) (Kd.R_base ho0) hb); have n3_ := Aside0.mk (Kd.R_lower (Kd.R_new' (Kd.R_new' (Kd.R_new' ho0 (Kd.R_lt (rq HO383.out))) (Kd.R_lt (rq HO386.out))) (Kd.R_lt (rq HO389.out))) (below_size (by repeat (first | (with_reducible first | exact HB.out | apply below_alloc | apply pw_below_drewN | apply below_drew1 | refine below_set ?_ GE377.out) | exact HB.out)))); have n4_ := Aside0.mk (blk_below (bq BK377.out) hb); have n5_ := Aside0.mk (below_step (by repeat (first | (with_reducible first | exact HB.out | apply below_alloc | apply pw_below_drewN | apply below_drew1 | refine below_set ?_ GE377.out) | exact HB.out)) hb); clear HO383; clear HO386; clear HO389; clear BK377; clear HB; have HO383 := n0_; have HO386 := n1_; have HO389 := n2_; have HO392 := n3_; have BK377 := n4_; have HB := n5_; clear n0_ n1_ n2_ n3_ n4_ n5_; (try clear hb); (try clear hb2); (try clear hk); (try clear hi); (try clear ho0); obtain ⟨Ao14, co14, eo14⟩ := Kd.R_slice HO392.out; subst eo14; obtain ⟨Ao15, co15, eo15⟩ := Kd.R_slice HO389.out; subst eo15; obtain ⟨Ao16, co16, eo16⟩ := Kd.R_slice HO386.out; subst eo16; obtain ⟨Ao17, co17, eo17⟩ := Kd.R_slice HO383.out; subst eo17; have hcz18_0 : w13.cell? ⟨gb377, 0, none⟩ = some (.slice none 0 0) := (blk_cell BK377.out 0).trans rfl; have hcz18_1 : w13.cell? ⟨gb377, 1, none⟩ = some (.slice none 0 0) := (blk_cell BK377.out 1).trans rfl; have hcz18_2 : w13.cell? ⟨gb377, 2, none⟩ = some (.slice none 0 0) := (blk_cell BK377.out 2).trans rfl; have hcz18_3 : w13.cell? ⟨gb377, 3, none⟩ = some (.slice none 0 0) := (blk_cell BK377.out 3).trans rfl; have hfz18_0 := blk_frozen BK377.out 0; have hfz18_1 := blk_frozen BK377.out 1; have hfz18_2 := blk_frozen BK377.out 2; have hfz18_3 := blk_frozen BK377.out 3))
      refine bodyPost_ret (results_cell_row rfl _ _ gb377 24 #[.slice Ao17 y381.length co17, .slice Ao16 t384.length co16, .slice Ao15 t387.length co15, .slice Ao14 t390.length co14] (0, 0) _ rfl (by (with_reducible repeat (first | refine blk_drewN ?_ _ | refine blk_drew ?_ | refine blk_alloc ?_ _)); refine blk_put (cs := #[.slice Ao17 y381.length co17, .slice Ao16 t384.length co16, .slice Ao15 t387.length co15, .slice none 0 0]) ?_ 3 _ rfl; (with_reducible repeat (first | refine blk_drewN ?_ _ | refine blk_drew ?_ | refine blk_alloc ?_ _)); refine blk_put (cs := #[.slice Ao17 y381.length co17, .slice Ao16 t384.length co16, .slice none 0 0, .slice none 0 0]) ?_ 2 _ rfl; (with_reducible repeat (first | refine blk_drewN ?_ _ | refine blk_drew ?_ | refine blk_alloc ?_ _)); refine blk_put (cs := #[.slice Ao17 y381.length co17, .slice none 0 0, .slice none 0 0, .slice none 0 0]) ?_ 1 _ rfl; (with_reducible repeat (first | refine blk_drewN ?_ _ | refine blk_drew ?_ | refine blk_alloc ?_ _)); refine blk_put (cs := #[.slice none 0 0, .slice none 0 0, .slice none 0 0, .slice none 0 0]) ?_ 0 _ rfl; (with_reducible repeat (first | refine blk_drewN ?_ _ | refine blk_drew ?_ | refine blk_alloc ?_ _)); exact BK377.out) Try.underlying24 rfl (by kernel_rfl)) rfl ?_
      exact ⟨_, _, _, _, by first | rfl | (simp [errW_none, errW_some] <;> rfl) | (simp [*, errW_none, errW_some] <;> rfl), by (with_reducible repeat (first | apply Kd.R_alloc | apply Kd.R_drewN | apply Kd.R_drew)); exact Kd.R_mono (Kd.R_far (p := ⟨gb377, 3, none⟩) (Kd.R_far (p := ⟨gb377, 2, none⟩) (Kd.R_far (p := ⟨gb377, 1, none⟩) (Kd.R_far (p := ⟨gb377, 0, none⟩) (Kd.R_types HO383.out BK377.out (by decide)) (fun _ hk => hk.2) (.slice Ao17 y381.length co17)) (fun _ hk => hk.2) (.slice Ao16 t384.length co16)) (fun _ hk => hk.2) (.slice Ao15 t387.length co15)) (fun _ hk => hk.2) (.slice Ao14 t390.length co14)) (fun _ hk => ⟨hk.1.1.1.2, ⟨hk.1.1.2, hk.1.2⟩⟩), by (with_reducible repeat (first | apply Kd.R_alloc | apply Kd.R_drewN | apply Kd.R_drew)); exact Kd.R_mono (Kd.R_far (p := ⟨gb377, 3, none⟩) (Kd.R_far (p := ⟨gb377, 2, none⟩) (Kd.R_far (p := ⟨gb377, 1, none⟩) (Kd.R_far (p := ⟨gb377, 0, none⟩) (Kd.R_types HO386.out BK377.out (by decide)) (fun _ hk => hk.2) (.slice Ao17 y381.length co17)) (fun _ hk => hk.2) (.slice Ao16 t384.length co16)) (fun _ hk => hk.2) (.slice Ao15 t387.length co15)) (fun _ hk => hk.2) (.slice Ao14 t390.length co14)) (fun _ hk => ⟨hk.1.1.1.2, ⟨hk.1.1.2, hk.1.2⟩⟩), by (with_reducible repeat (first | apply Kd.R_alloc | apply Kd.R_drewN | apply Kd.R_drew)); exact Kd.R_mono (Kd.R_far (p := ⟨gb377, 3, none⟩) (Kd.R_far (p := ⟨gb377, 2, none⟩) (Kd.R_far (p := ⟨gb377, 1, none⟩) (Kd.R_far (p := ⟨gb377, 0, none⟩) (Kd.R_types HO389.out BK377.out (by decide)) (fun _ hk => hk.2) (.slice Ao17 y381.length co17)) (fun _ hk => hk.2) (.slice Ao16 t384.length co16)) (fun _ hk => hk.2) (.slice Ao15 t387.length co15)) (fun _ hk => hk.2) (.slice Ao14 t390.length co14)) (fun _ hk => ⟨hk.1.1.1.2, ⟨hk.1.1.2, hk.1.2⟩⟩), by (with_reducible repeat (first | apply Kd.R_alloc | apply Kd.R_drewN | apply Kd.R_drew)); exact Kd.R_mono (Kd.R_far (p := ⟨gb377, 3, none⟩) (Kd.R_far (p := ⟨gb377, 2, none⟩) (Kd.R_far (p := ⟨gb377, 1, none⟩) (Kd.R_far (p := ⟨gb377, 0, none⟩) (Kd.R_types HO392.out BK377.out (by decide)) (fun _ hk => hk.2) (.slice Ao17 y381.length co17)) (fun _ hk => hk.2) (.slice Ao16 t384.length co16)) (fun _ hk => hk.2) (.slice Ao15 t387.length co15)) (fun _ hk => hk.2) (.slice Ao14 t390.length co14)) (fun _ hk => ⟨hk.1.1.1.2, ⟨hk.1.1.2, hk.1.2⟩⟩), by repeat (first | (with_reducible first | exact HB.out | apply below_alloc | apply pw_below_drewN | apply below_drew1 | refine below_set ?_ GE377.out) | exact HB.out)⟩
    · rw [if_neg c3] at H
      exact absurd H (by simp)
  · rw [if_neg c2] at H
    have c2b0 : ((l0.length : Int) == 16) = false := beq_eq_false_iff_ne.mpr c2
    have c2b1 : ((l0.length : Int) != 16) = true := bne_iff_ne.mpr c2
    simp only [Option.some.injEq, Prod.mk.injEq] at H
    obtain ⟨rfl, rfl, rfl, rfl⟩ := H
    go_enter Try.func73, Try.ntmps73
    go_wp2_with (first | ((with_reducible refine gate_dst (N := 2) rfl ?_); refine box_event ?hg (N := 2) ?hd (cs := #[.slice none 0 0, .slice none 0 0, .slice none 0 0, .slice none 0 0]) (t := 24) ?hr ?_; (case hd => rfl); (case hg => rfl); (case hr => first | (go_simp; done) | (go_simp; rfl)); intro gb377 hg w19 hbox hb; have n0_ := Aside0.mk (below_step (hq HB.out) hb); have n1_ := Aside0.mk (hbox); have n2_ := Aside0.mk ((by rw [hg]; exact (below_size (hq HB.out)) : w.heap.size ≤ gb377)); have n3_ := Aside0.mk ((by rw [hg]; exact (below_size (hq HB.out)) : w.heap.size ≤ gb377)); clear HB; have HB := n0_; have BK377 := n1_; have GW377 := n2_; have GE377 := n3_; clear n0_ n1_ n2_ n3_; clear hb hbox hg; have hcz20_0 : w19.cell? ⟨gb377, 0, none⟩ = some (.slice none 0 0) := (blk_cell BK377.out 0).trans rfl; have hcz20_1 : w19.cell? ⟨gb377, 1, none⟩ = some (.slice none 0 0) := (blk_cell BK377.out 1).trans rfl; have hcz20_2 : w19.cell? ⟨gb377, 2, none⟩ = some (.slice none 0 0) := (blk_cell BK377.out 2).trans rfl; have hcz20_3 : w19.cell? ⟨gb377, 3, none⟩ = some (.slice none 0 0) := (blk_cell BK377.out 3).trans rfl; have hfz20_0 := blk_frozen BK377.out 0; have hfz20_1 := blk_frozen BK377.out 1; have hfz20_2 := blk_frozen BK377.out 2; have hfz20_3 := blk_frozen BK377.out 3))
    refine bodyPost_ret (results_cell_row rfl _ _ gb377 24 #[.slice none 0 0, .slice none 0 0, .slice none 0 0, .slice none 0 0] (0, 0) _ rfl (by (with_reducible repeat (first | refine blk_drewN ?_ _ | refine blk_drew ?_ | refine blk_alloc ?_ _)); refine blk_put (cs := #[.slice none 0 0, .slice none 0 0, .slice none 0 0, .slice none 0 0]) ?_ 3 _ rfl; (with_reducible repeat (first | refine blk_drewN ?_ _ | refine blk_drew ?_ | refine blk_alloc ?_ _)); refine blk_put (cs := #[.slice none 0 0, .slice none 0 0, .slice none 0 0, .slice none 0 0]) ?_ 2 _ rfl; (with_reducible repeat (first | refine blk_drewN ?_ _ | refine blk_drew ?_ | refine blk_alloc ?_ _)); refine blk_put (cs := #[.slice none 0 0, .slice none 0 0, .slice none 0 0, .slice none 0 0]) ?_ 1 _ rfl; (with_reducible repeat (first | refine blk_drewN ?_ _ | refine blk_drew ?_ | refine blk_alloc ?_ _)); refine blk_put (cs := #[.slice none 0 0, .slice none 0 0, .slice none 0 0, .slice none 0 0]) ?_ 0 _ rfl; (with_reducible repeat (first | refine blk_drewN ?_ _ | refine blk_drew ?_ | refine blk_alloc ?_ _)); exact BK377.out) Try.underlying24 rfl (by kernel_rfl)) rfl ?_
    exact ⟨_, _, _, _, by first | rfl | (simp [errW_none, errW_some] <;> rfl) | (simp [*, errW_none, errW_some] <;> rfl), by first | exact Kd.R_nil _ _ _ _ _ | exact Kd.N_nil _ _ _ _ _ | exact Kd.V_nil _ _ _ _ _ | exact Kd.Q_nil _ _ _ _ _ | exact Kd.S_nil _ _ _ _ _, by first | exact Kd.R_nil _ _ _ _ _ | exact Kd.N_nil _ _ _ _ _ | exact Kd.V_nil _ _ _ _ _ | exact Kd.Q_nil _ _ _ _ _ | exact Kd.S_nil _ _ _ _ _, by first | exact Kd.R_nil _ _ _ _ _ | exact Kd.N_nil _ _ _ _ _ | exact Kd.V_nil _ _ _ _ _ | exact Kd.Q_nil _ _ _ _ _ | exact Kd.S_nil _ _ _ _ _, by first | exact Kd.R_nil _ _ _ _ _ | exact Kd.N_nil _ _ _ _ _ | exact Kd.V_nil _ _ _ _ _ | exact Kd.Q_nil _ _ _ _ _ | exact Kd.S_nil _ _ _ _ _, by repeat (first | (with_reducible first | exact HB.out | apply below_alloc | apply pw_below_drewN | apply below_drew1 | refine below_set ?_ GE377.out) | exact HB.out)⟩

/-! ### impl_inTime: function 80 -/
def impl_inTime.f (a0 : Int) : Option (Bool) := if a0 ≥ 0 then (some (decide (a0 ≤ 1000000000000))) else (some false)
set_option maxHeartbeats 8000000 in
set_option maxRecDepth 100000 in
theorem impl_inTime.calls (a0 : Int) (r : Bool) (w : World) (h : impl_inTime.f a0 = some r) :
    Calls Try.prog 80 #[.int .i64 a0] w fun e w' => e = .returned (.bool r) ∧ Drawn0 w w' := by
  have H : (if a0 ≥ 0 then (some (decide (a0 ≤ 1000000000000))) else (some false)) = some r := h
  clear h
  by_cases c2 : a0 ≥ 0
  · rw [if_pos c2] at H
    have c2b0 : decide (0 ≤ a0) = true := decide_eq_true c2
    clear c2
    obtain rfl := Option.some.inj H
    go_enter Try.func80, Try.ntmps80
    go_wp2
    go_ret
    exact ⟨by first | rfl | (simp; done) | (simp [*]; done), by repeat (first | exact Drawn0.refl _ | apply Drawn0.step)⟩
  · rw [if_neg c2] at H
    have c2b0 : decide (0 ≤ a0) = false := decide_eq_false c2
    clear c2
    obtain rfl := Option.some.inj H
    go_enter Try.func80, Try.ntmps80
    go_wp2
    go_ret
    exact ⟨by first | rfl | (simp; done) | (simp [*]; done), by repeat (first | exact Drawn0.refl _ | apply Drawn0.step)⟩

end Go.Proofs.Ytolpikjbdfpdcaa.PFnTokens
