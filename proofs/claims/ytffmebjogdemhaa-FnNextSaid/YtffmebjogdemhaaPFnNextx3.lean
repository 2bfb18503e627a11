-- Written by a program of this repo (xprint.py) out of the translation; Lean checks it.
import Derived.Test.YtffmebjogdemhaaPFnNextx0
import Derived.Test.YtffmebjogdemhaaPFnNextx1
import Derived.Test.YtffmebjogdemhaaPFnNextx2
namespace Go.Proofs.Ytffmebjogdemhaa.PFnNext
open Go.RowKit Go.Proofs.YtffmebjogdemhaaW.PrintWords Go.Proofs.YtffmebjogdemhaaW.PrintLast Go.Proofs.YtffmebjogdemhaaW.PrintMore
attribute [local go_sem] max2_int min2_int max_two min_two max_three min_three max_four min_four   -- for this text's walks alone
set_option linter.unusedVariables false
set_option linter.unusedSimpArgs false

/-! ### spec_DrawNextStream: function 47 -/
def spec_DrawNextStream.l0 : Nat → List (S73) → Int → List Int → Int → Int → Option ((List (S73)))
  | 0, _, _, _, _, _ => none
  | k + 1, x4, x5, x132000, x132001, x132002 => if x5 > 0 then ((spec_l01Src_next.f x132000 x132001 x132002 8).bind fun bt141 => ((spec_l01Src_next.f x132000 bt141.2.1 bt141.2.2 4).bind fun bt144 => ((spec_l01Src_next.f x132000 bt144.2.1 bt144.2.2 3).bind fun bt147 => ((spec_l01Src_chance.f x132000 bt147.2.1 bt147.2.2 2).bind fun bt150 => (if x4.length < 4398046511104 then (spec_DrawNextStream.l0 k (x4 ++ [(⟨wrap64 (4 * bt141.1), bt144.1, bt147.1, bt150.1⟩ : S73)]) (wrap64 (x5 - 1)) x132000 bt150.2.1 bt150.2.2) else (none)))))) else ((spec_l01Src_chance.f x132000 x132001 x132002 60).bind fun bt156 => (if bt156.1 = true then ((spec_l01Src_next.f x132000 bt156.2.1 bt156.2.2 2).bind fun bt159 => (if 0 ≤ (wrap64 (4096 + bt159.1)) then (if (wrap64 (4096 + bt159.1) : Int).toNat ≤ 8796093022208 then (some (List.replicate (wrap64 (4096 + bt159.1) : Int).toNat z73)) else (none)) else (none))) else (some x4)))
def spec_DrawNextStream.f (k : Nat) (l0 : List Int) : Option ((List (S73))) := (spec_l01Source.f l0).bind fun bt128 => ((spec_l01Src_size.f bt128.1 bt128.2.1 bt128.2.2 12).bind fun bt135 => ((spec_l01Src_next.f bt128.1 bt135.2.1 bt135.2.2 (wrap64 (bt135.1 + 1))).bind fun bt138 => (spec_DrawNextStream.l0 k (([] : List (S73))) bt138.1 bt128.1 bt138.2.1 bt138.2.2)))
theorem spec_DrawNextStream.mono_l : ∀ k, (∀ y0 y1 y2 y3 y4, LeO (spec_DrawNextStream.l0 k y0 y1 y2 y3 y4) (spec_DrawNextStream.l0 (k + 1) y0 y1 y2 y3 y4))
  | 0 => fun _ _ _ _ _ r h => by simp [spec_DrawNextStream.l0] at h
  | k + 1 => by
    have ih0 := spec_DrawNextStream.mono_l k
    · intro y0 y1 y2 y3 y4
      unfold spec_DrawNextStream.l0
      repeat' first
      | (with_reducible exact ih0 _ _ _ _ _)
      | (with_reducible exact LeO.refl _)
      | (with_reducible exact LeO.none _)
      | (with_reducible refine LeO.ite ?_ ?_)
      | (with_reducible refine LeO.bind ?_ (fun _ => ?_))
      | exact ih0 _ _ _ _ _
      | exact LeO.none _
      | refine LeO.ite ?_ ?_
      | refine LeO.bind ?_ (fun _ => ?_)
theorem spec_DrawNextStream.mono : ∀ a0 k, LeO (spec_DrawNextStream.f k a0) (spec_DrawNextStream.f (k + 1) a0) := by
  intro a0 k
  have ih0 := spec_DrawNextStream.mono_l k
  unfold spec_DrawNextStream.f
  repeat' first
      | (with_reducible exact ih0 _ _ _ _ _)
      | (with_reducible exact LeO.refl _)
      | (with_reducible exact LeO.none _)
      | (with_reducible refine LeO.ite ?_ ?_)
      | (with_reducible refine LeO.bind ?_ (fun _ => ?_))
      | exact ih0 _ _ _ _ _
      | exact LeO.none _
      | refine LeO.ite ?_ ?_
      | refine LeO.bind ?_ (fun _ => ?_)
set_option maxHeartbeats 8000000 in
set_option maxRecDepth 100000 in
theorem spec_DrawNextStream.calls (k : Nat) (A0 : Option Addr) (c0 : Nat) (l0 : List Int) (r : List (S73)) (w : World) (hr0 : Kd.C (Kd.int .u8) w A0 l0.length l0) (hc0 : l0.length ≤ c0) (h : spec_DrawNextStream.f k l0 = some r) :
    Calls Try.prog 47 #[.slice A0 l0.length c0] w fun e w' => ∃ v0_ : Value, e = .returned (v0_) ∧ Kd.R k73 73 w' w.heap.size (fun _ => True) v0_ r ∧ Below w.heap.size w w' := by
  have hu73 := Try.underlying73
  have HR0 := Aside0.mk hr0
  have HC0 := Aside0.mk hc0
  clear hr0 hc0
  have HB := Aside0.mk (Below.refl w.heap.size w)
  have H : ((spec_l01Source.f l0).bind fun bt128 => ((spec_l01Src_size.f bt128.1 bt128.2.1 bt128.2.2 12).bind fun bt135 => ((spec_l01Src_next.f bt128.1 bt135.2.1 bt135.2.2 (wrap64 (bt135.1 + 1))).bind fun bt138 => (spec_DrawNextStream.l0 k (([] : List (S73))) bt138.1 bt128.1 bt138.2.1 bt138.2.2)))) = some r := h
  clear h
  replace H := Option.bind_eq_some_iff.mp H
  obtain ⟨⟨t128, t129, t130⟩, A20, H⟩ := H
  replace H : ((spec_l01Src_size.f t128 t129 t130 12).bind fun bt135 => ((spec_l01Src_next.f t128 bt135.2.1 bt135.2.2 (wrap64 (bt135.1 + 1))).bind fun bt138 => (spec_DrawNextStream.l0 k (([] : List (S73))) bt138.1 t128 bt138.2.1 bt138.2.2))) = some r := H
  have A2 := Aside0.mk A20
  clear A20
  obtain ⟨y132, hy132⟩ : ∃ y_ : List (S73), y_ = (([] : List (S73))) := ⟨_, rfl⟩
  replace H : ((spec_l01Src_size.f t128 t129 t130 12).bind fun bt135 => ((spec_l01Src_next.f t128 bt135.2.1 bt135.2.2 (wrap64 (bt135.1 + 1))).bind fun bt138 => (spec_DrawNextStream.l0 k y132 bt138.1 t128 bt138.2.1 bt138.2.2))) = some r := by first | (rw [hy132]; with_reducible exact H) | (have H2_ := (Option.bind_some _ _).symm.trans H; rw [hy132]; with_reducible exact H2_) | (have H2_ := (Option.bind_some _ _).symm.trans H; with_reducible exact H2_) | with_reducible exact H | (rw [hy132]; exact H) | exact H
  have Ny132 := Aside0.mk hy132
  clear hy132
  replace H := Option.bind_eq_some_iff.mp H
  obtain ⟨⟨t135, t136, t137⟩, A30, H⟩ := H
  replace H : ((spec_l01Src_next.f t128 t136 t137 (wrap64 (t135 + 1))).bind fun bt138 => (spec_DrawNextStream.l0 k y132 bt138.1 t128 bt138.2.1 bt138.2.2)) = some r := H
  have A3 := Aside0.mk A30
  clear A30
  replace H := Option.bind_eq_some_iff.mp H
  obtain ⟨⟨t138, t139, t140⟩, A40, H⟩ := H
  replace H : (spec_DrawNextStream.l0 k y132 t138 t128 t139 t140) = some r := H
  have A4 := Aside0.mk A40
  clear A40
  have H' := Aside0.mk H
  clear H
  go_enter Try.func47, Try.ntmps47
  go_wp2_with (first | ((with_reducible refine gate_callee (f := 80) rfl ?_); refine goesL_ (some 7) rfl rfl Try.func80 (by kernel_rfl) rfl #[.slice A0 l0.length c0] rfl (by (try simp only [List.map_toArray, List.map_cons, List.map_nil]); first | done | rfl | (simp only [List.length_drop, List.length_take]; rfl)) ?_; (with_reducible refine (spec_l01Source.calls _ _ l0 t128 t129 t130 w _ ?side1 ?side2 ?side3 A2.out).mono ?_); (case side1 => repeat (first | (with_reducible first | exact HB.out | apply below_alloc | apply pw_below_drewN | apply below_drew1) | exact HB.out)); (case side2 => exact HR0.out); (case side3 => exact HC0.out); rintro e w5 ⟨g131, rfl, hi, hb, hb2⟩; refine ⟨_, rfl, ?_⟩; have n0_ := Aside0.mk (hb); have n1_ := Aside0.mk (hi); clear HB; have HB := n0_; have HI131 := n1_; clear n0_ n1_; (try clear hb); (try clear hb2); (try clear hk); (try clear hi)) | ((with_reducible refine gate_dst (N := 8) rfl ?_); refine Kd.R_lit k73 _ 73 ?hg (N := 8) ?hd (xs := ([] : List (S73))) (inner := []) (ok := fun _ => True) (okp := fun _ => True) ?hr ?hp (fun _ hk => hk) trivial (Below.refl _ _) (Nat.le_refl _) (by simp) ?_; (case hd => rfl); (case hg => rfl); (case hr => first | (go_simp; done) | (go_simp; rfl)); (case hp => exact (Reps.none _ _)); intro v133 w6 ho7 hb hg_ hnew_; clear hg_ hnew_; (first | rw [← Ny132.out] at ho7 | (simp only [Int.reduceToNat] at ho7; rw [← Ny132.out] at ho7)); have n0_ := Aside0.mk (Kd.R_lower ho7 (below_size (by repeat (first | (with_reducible first | exact HB.out | apply below_alloc | apply pw_below_drewN | apply below_drew1 | refine below_set ?_ (IsS137.ge HI131.out)) | exact HB.out)))); have n1_ := Aside0.mk (IsS137.below (by repeat (first | (with_reducible first | exact HI131.out | apply IsS137.alloc | apply IsS137.drewN | apply IsS137.drew | apply IsS137.set_1 | apply IsS137.set_2) | exact HI131.out)) hb); have n2_ := Aside0.mk (below_step (by repeat (first | (with_reducible first | exact HB.out | apply below_alloc | apply pw_below_drewN | apply below_drew1 | refine below_set ?_ (IsS137.ge HI131.out)) | exact HB.out)) hb); clear HI131; clear HB; have HO134 := n0_; have HI131 := n1_; have HB := n2_; clear n0_ n1_ n2_; clear hb ho7) | ((with_reducible refine gate_callee (f := 82) rfl ?_); refine goesL_ (some 11) rfl rfl Try.func82 (by kernel_rfl) rfl #[.pointer (some ⟨g131, 0, none⟩), .int .i64 12] rfl (by (try simp only [List.map_toArray, List.map_cons, List.map_nil]); first | done | rfl | (simp only [List.length_drop, List.length_take]; rfl)) ?_; (with_reducible refine (spec_l01Src_size.calls g131 t128 t129 t130 12 t135 t136 t137 w _ ?side1 ?side2 A3.out).mono ?_); (case side1 => repeat (first | (with_reducible first | exact HI131.out | apply IsS137.alloc | apply IsS137.drewN | apply IsS137.drew | apply IsS137.set_1 | apply IsS137.set_2) | exact HI131.out)); (case side2 => repeat (first | (with_reducible first | exact HB.out | apply below_alloc | apply pw_below_drewN | apply below_drew1 | refine below_set ?_ (IsS137.ge HI131.out)) | exact HB.out)); rintro e w8 ⟨rfl, hi, hb, hk⟩; refine ⟨_, rfl, ?_⟩; have n0_ := Aside0.mk (Kd.R_mono (Kd.R_keep (IsS137.apart (show IsS137 w _ g131 t128 t129 t130 from by repeat (first | (with_reducible first | exact HI131.out | apply IsS137.alloc | apply IsS137.drewN | apply IsS137.drew | apply IsS137.set_1 | apply IsS137.set_2) | exact HI131.out)) (by (with_reducible repeat (first | apply Kd.R_alloc | apply Kd.R_drewN | apply Kd.R_drew)); exact HO134.out) (by decide)) hk (fun _ h => h.2)) (fun _ h => h.1)); have n1_ := Aside0.mk (hb); have n2_ := Aside0.mk (hi); clear HO134; clear HB; clear HI131; have HO134 := n0_; have HB := n1_; have HI131 := n2_; clear n0_ n1_ n2_; (try clear hb); (try clear hb2); (try clear hk); (try clear hi)) | ((with_reducible refine gate_callee (f := 81) rfl ?_); refine goesL_ (some 13) rfl rfl Try.func81 (by kernel_rfl) rfl #[.pointer (some ⟨g131, 0, none⟩), .int .i64 (wrap64 (t135 + 1))] rfl (by (try simp only [List.map_toArray, List.map_cons, List.map_nil]); first | done | rfl | (simp only [List.length_drop, List.length_take]; rfl)) ?_; (with_reducible refine (spec_l01Src_next.calls g131 t128 t136 t137 (wrap64 (t135 + 1)) t138 t139 t140 w _ ?side1 ?side2 A4.out).mono ?_); (case side1 => repeat (first | (with_reducible first | exact HI131.out | apply IsS137.alloc | apply IsS137.drewN | apply IsS137.drew | apply IsS137.set_1 | apply IsS137.set_2) | exact HI131.out)); (case side2 => repeat (first | (with_reducible first | exact HB.out | apply below_alloc | apply pw_below_drewN | apply below_drew1 | refine below_set ?_ (IsS137.ge HI131.out)) | exact HB.out)); rintro e w9 ⟨rfl, hi, hb, hk⟩; refine ⟨_, rfl, ?_⟩; have n0_ := Aside0.mk (Kd.R_mono (Kd.R_keep (IsS137.apart (show IsS137 w _ g131 t128 t136 t137 from by repeat (first | (with_reducible first | exact HI131.out | apply IsS137.alloc | apply IsS137.drewN | apply IsS137.drew | apply IsS137.set_1 | apply IsS137.set_2) | exact HI131.out)) (by (with_reducible repeat (first | apply Kd.R_alloc | apply Kd.R_drewN | apply Kd.R_drew)); exact HO134.out) (by decide)) hk (fun _ h => h.2)) (fun _ h => h.1)); have n1_ := Aside0.mk (hb); have n2_ := Aside0.mk (hi); clear HO134; clear HB; clear HI131; have HO134 := n0_; have HB := n1_; have HI131 := n2_; clear n0_ n1_ n2_; (try clear hb); (try clear hb2); (try clear hk); (try clear hi)))
  go_loopg [4, 5] k (fun kq v4 v5 w' => ∃ (x4_1 : List (S73)) (x5_1 : Int) (x132001_1 : Int) (x132002_1 : Int), v5 = .int .i64 x5_1 ∧ Aside0 (spec_DrawNextStream.l0 kq x4_1 x5_1 t128 x132001_1 x132002_1 = some r) ∧ Aside0 (kq ≤ k) ∧ Aside0 (Kd.R k73 73 w' w.heap.size (fun _ => True) v4 x4_1) ∧ Aside0 (IsS137 w w' g131 t128 x132001_1 x132002_1) ∧ Aside0 (Below w.heap.size w w'))
  case atStart => exact ⟨(y132), (t138), (t139), (t140), (by first | rfl | (simp; done) | (simp [*]; done)), H', ⟨Nat.le_refl _⟩, ⟨by (with_reducible repeat (first | apply Kd.R_alloc | apply Kd.R_drewN | apply Kd.R_drew)); exact HO134.out⟩, ⟨by repeat (first | (with_reducible first | exact HI131.out | apply IsS137.alloc | apply IsS137.drewN | apply IsS137.drew | apply IsS137.set_1 | apply IsS137.set_2) | exact HI131.out)⟩, ⟨by repeat (first | (with_reducible first | exact HB.out | apply below_alloc | apply pw_below_drewN | apply below_drew1 | refine below_set ?_ (IsS137.ge HI131.out)) | exact HB.out)⟩⟩
  case round =>
    clear H'
    try clear p2
    try clear c4
    try clear p6
    try clear c8
    obtain ⟨x4_1, x5_1, x132001_1, x132002_1, rfl, HA, HK1, HO_4, HI131, HB⟩ := hrel
    cases gk with
    | zero => exact absurd HA.out (by simp [spec_DrawNextStream.l0])
    | succ k1 =>
      have H := HA.out
      clear HA
      simp only [spec_DrawNextStream.l0] at H
      by_cases c10 : x5_1 > 0
      · rw [if_pos c10] at H
        have c10b0 : decide (0 < x5_1) = true := decide_eq_true c10
        clear c10
        replace H := Option.bind_eq_some_iff.mp H
        obtain ⟨⟨t141, t142, t143⟩, A110, H⟩ := H
        replace H : ((spec_l01Src_next.f t128 t142 t143 4).bind fun bt144 => ((spec_l01Src_next.f t128 bt144.2.1 bt144.2.2 3).bind fun bt147 => ((spec_l01Src_chance.f t128 bt147.2.1 bt147.2.2 2).bind fun bt150 => (if x4_1.length < 4398046511104 then (spec_DrawNextStream.l0 k1 (x4_1 ++ [(⟨wrap64 (4 * t141), bt144.1, bt147.1, bt150.1⟩ : S73)]) (wrap64 (x5_1 - 1)) t128 bt150.2.1 bt150.2.2) else (none))))) = some r := H
        have A11 := Aside0.mk A110
        clear A110
        replace H := Option.bind_eq_some_iff.mp H
        obtain ⟨⟨t144, t145, t146⟩, A120, H⟩ := H
        replace H : ((spec_l01Src_next.f t128 t145 t146 3).bind fun bt147 => ((spec_l01Src_chance.f t128 bt147.2.1 bt147.2.2 2).bind fun bt150 => (if x4_1.length < 4398046511104 then (spec_DrawNextStream.l0 k1 (x4_1 ++ [(⟨wrap64 (4 * t141), t144, bt147.1, bt150.1⟩ : S73)]) (wrap64 (x5_1 - 1)) t128 bt150.2.1 bt150.2.2) else (none)))) = some r := H
        have A12 := Aside0.mk A120
        clear A120
        replace H := Option.bind_eq_some_iff.mp H
        obtain ⟨⟨t147, t148, t149⟩, A130, H⟩ := H
        replace H : ((spec_l01Src_chance.f t128 t148 t149 2).bind fun bt150 => (if x4_1.length < 4398046511104 then (spec_DrawNextStream.l0 k1 (x4_1 ++ [(⟨wrap64 (4 * t141), t144, t147, bt150.1⟩ : S73)]) (wrap64 (x5_1 - 1)) t128 bt150.2.1 bt150.2.2) else (none))) = some r := H
        have A13 := Aside0.mk A130
        clear A130
        replace H := Option.bind_eq_some_iff.mp H
        obtain ⟨⟨t150, t151, t152⟩, A140, H⟩ := H
        replace H : (if x4_1.length < 4398046511104 then (spec_DrawNextStream.l0 k1 (x4_1 ++ [(⟨wrap64 (4 * t141), t144, t147, t150⟩ : S73)]) (wrap64 (x5_1 - 1)) t128 t151 t152) else (none)) = some r := H
        have A14 := Aside0.mk A140
        clear A140
        by_cases c15 : x4_1.length < 4398046511104
        · rw [if_pos c15] at H
          have LMc15 := Aside0.mk c15
          clear c15
          obtain ⟨y153, hy153⟩ : ∃ y_ : List (S73), y_ = (x4_1 ++ [(⟨wrap64 (4 * t141), t144, t147, t150⟩ : S73)]) := ⟨_, rfl⟩
          replace H : (spec_DrawNextStream.l0 k1 y153 (wrap64 (x5_1 - 1)) t128 t151 t152) = some r := by first | (rw [hy153]; with_reducible exact H) | (have H2_ := (Option.bind_some _ _).symm.trans H; rw [hy153]; with_reducible exact H2_) | (have H2_ := (Option.bind_some _ _).symm.trans H; with_reducible exact H2_) | with_reducible exact H | (rw [hy153]; exact H) | exact H
          have Ny153 := Aside0.mk hy153
          clear hy153
          have H' := Aside0.mk H
          clear H
          go_wp2_with (first | ((with_reducible refine gate_callee (f := 81) rfl ?_); refine goesL_ (some 20) rfl rfl Try.func81 (by kernel_rfl) rfl #[.pointer (some ⟨g131, 0, none⟩), .int .i64 8] rfl (by (try simp only [List.map_toArray, List.map_cons, List.map_nil]); first | done | rfl | (simp only [List.length_drop, List.length_take]; rfl)) ?_; (with_reducible refine (spec_l01Src_next.calls g131 t128 x132001_1 x132002_1 8 t141 t142 t143 w _ ?side1 ?side2 A11.out).mono ?_); (case side1 => repeat (first | (with_reducible first | exact HI131.out | apply IsS137.alloc | apply IsS137.drewN | apply IsS137.drew | apply IsS137.set_1 | apply IsS137.set_2) | exact HI131.out)); (case side2 => repeat (first | (with_reducible first | exact HB.out | apply below_alloc | apply pw_below_drewN | apply below_drew1 | refine below_set ?_ (IsS137.ge HI131.out)) | exact HB.out)); rintro e w16 ⟨rfl, hi, hb, hk⟩; refine ⟨_, rfl, ?_⟩; have n0_ := Aside0.mk (Kd.R_mono (Kd.R_keep (IsS137.apart (show IsS137 w _ g131 t128 x132001_1 x132002_1 from by repeat (first | (with_reducible first | exact HI131.out | apply IsS137.alloc | apply IsS137.drewN | apply IsS137.drew | apply IsS137.set_1 | apply IsS137.set_2) | exact HI131.out)) (by (with_reducible repeat (first | apply Kd.R_alloc | apply Kd.R_drewN | apply Kd.R_drew)); exact HO_4.out) (by decide)) hk (fun _ h => h.2)) (fun _ h => h.1)); have n1_ := Aside0.mk (hb); have n2_ := Aside0.mk (hi); clear HO_4; clear HB; clear HI131; have HO_4 := n0_; have HB := n1_; have HI131 := n2_; clear n0_ n1_ n2_; (try clear hb); (try clear hb2); (try clear hk); (try clear hi)) | ((with_reducible refine gate_callee (f := 81) rfl ?_); refine goesL_ (some 23) rfl rfl Try.func81 (by kernel_rfl) rfl #[.pointer (some ⟨g131, 0, none⟩), .int .i64 4] rfl (by (try simp only [List.map_toArray, List.map_cons, List.map_nil]); first | done | rfl | (simp only [List.length_drop, List.length_take]; rfl)) ?_; (with_reducible refine (spec_l01Src_next.calls g131 t128 t142 t143 4 t144 t145 t146 w _ ?side1 ?side2 A12.out).mono ?_); (case side1 => repeat (first | (with_reducible first | exact HI131.out | apply IsS137.alloc | apply IsS137.drewN | apply IsS137.drew | apply IsS137.set_1 | apply IsS137.set_2) | exact HI131.out)); (case side2 => repeat (first | (with_reducible first | exact HB.out | apply below_alloc | apply pw_below_drewN | apply below_drew1 | refine below_set ?_ (IsS137.ge HI131.out)) | exact HB.out)); rintro e w17 ⟨rfl, hi, hb, hk⟩; refine ⟨_, rfl, ?_⟩; have n0_ := Aside0.mk (Kd.R_mono (Kd.R_keep (IsS137.apart (show IsS137 w _ g131 t128 t142 t143 from by repeat (first | (with_reducible first | exact HI131.out | apply IsS137.alloc | apply IsS137.drewN | apply IsS137.drew | apply IsS137.set_1 | apply IsS137.set_2) | exact HI131.out)) (by (with_reducible repeat (first | apply Kd.R_alloc | apply Kd.R_drewN | apply Kd.R_drew)); exact HO_4.out) (by decide)) hk (fun _ h => h.2)) (fun _ h => h.1)); have n1_ := Aside0.mk (hb); have n2_ := Aside0.mk (hi); clear HO_4; clear HB; clear HI131; have HO_4 := n0_; have HB := n1_; have HI131 := n2_; clear n0_ n1_ n2_; (try clear hb); (try clear hb2); (try clear hk); (try clear hi)) | ((with_reducible refine gate_callee (f := 81) rfl ?_); refine goesL_ (some 25) rfl rfl Try.func81 (by kernel_rfl) rfl #[.pointer (some ⟨g131, 0, none⟩), .int .i64 3] rfl (by (try simp only [List.map_toArray, List.map_cons, List.map_nil]); first | done | rfl | (simp only [List.length_drop, List.length_take]; rfl)) ?_; (with_reducible refine (spec_l01Src_next.calls g131 t128 t145 t146 3 t147 t148 t149 w _ ?side1 ?side2 A13.out).mono ?_); (case side1 => repeat (first | (with_reducible first | exact HI131.out | apply IsS137.alloc | apply IsS137.drewN | apply IsS137.drew | apply IsS137.set_1 | apply IsS137.set_2) | exact HI131.out)); (case side2 => repeat (first | (with_reducible first | exact HB.out | apply below_alloc | apply pw_below_drewN | apply below_drew1 | refine below_set ?_ (IsS137.ge HI131.out)) | exact HB.out)); rintro e w18 ⟨rfl, hi, hb, hk⟩; refine ⟨_, rfl, ?_⟩; have n0_ := Aside0.mk (Kd.R_mono (Kd.R_keep (IsS137.apart (show IsS137 w _ g131 t128 t145 t146 from by repeat (first | (with_reducible first | exact HI131.out | apply IsS137.alloc | apply IsS137.drewN | apply IsS137.drew | apply IsS137.set_1 | apply IsS137.set_2) | exact HI131.out)) (by (with_reducible repeat (first | apply Kd.R_alloc | apply Kd.R_drewN | apply Kd.R_drew)); exact HO_4.out) (by decide)) hk (fun _ h => h.2)) (fun _ h => h.1)); have n1_ := Aside0.mk (hb); have n2_ := Aside0.mk (hi); clear HO_4; clear HB; clear HI131; have HO_4 := n0_; have HB := n1_; have HI131 := n2_; clear n0_ n1_ n2_; (try clear hb); (try clear hb2); (try clear hk); (try clear hi)) | ((with_reducible refine gate_callee (f := 83) rfl ?_); refine goesL_ (some 27) rfl rfl Try.func83 (by kernel_rfl) rfl #[.pointer (some ⟨g131, 0, none⟩), .int .i64 2] rfl (by (try simp only [List.map_toArray, List.map_cons, List.map_nil]); first | done | rfl | (simp only [List.length_drop, List.length_take]; rfl)) ?_; (with_reducible refine (spec_l01Src_chance.calls g131 t128 t148 t149 2 t150 t151 t152 w _ ?side1 ?side2 A14.out).mono ?_); (case side1 => repeat (first | (with_reducible first | exact HI131.out | apply IsS137.alloc | apply IsS137.drewN | apply IsS137.drew | apply IsS137.set_1 | apply IsS137.set_2) | exact HI131.out)); (case side2 => repeat (first | (with_reducible first | exact HB.out | apply below_alloc | apply pw_below_drewN | apply below_drew1 | refine below_set ?_ (IsS137.ge HI131.out)) | exact HB.out)); rintro e w19 ⟨rfl, hi, hb, hk⟩; refine ⟨_, rfl, ?_⟩; have n0_ := Aside0.mk (Kd.R_mono (Kd.R_keep (IsS137.apart (show IsS137 w _ g131 t128 t148 t149 from by repeat (first | (with_reducible first | exact HI131.out | apply IsS137.alloc | apply IsS137.drewN | apply IsS137.drew | apply IsS137.set_1 | apply IsS137.set_2) | exact HI131.out)) (by (with_reducible repeat (first | apply Kd.R_alloc | apply Kd.R_drewN | apply Kd.R_drew)); exact HO_4.out) (by decide)) hk (fun _ h => h.2)) (fun _ h => h.1)); have n1_ := Aside0.mk (hb); have n2_ := Aside0.mk (hi); clear HO_4; clear HB; clear HI131; have HO_4 := n0_; have HB := n1_; have HI131 := n2_; clear n0_ n1_ n2_; (try clear hb); (try clear hb2); (try clear hk); (try clear hi)) | ((with_reducible refine gate_builtin (b := .append) (xs := #[.tmp 18, .tmp 29]) rfl ?_); at_builtin; refine Kd.R_append k73 (w0 := w) w.heap.size rfl (.tmp 18) (.tmp 29) 44 73 (.agg #[(.int .i64 0), (.int .i64 0), (.int .i64 0), (.bool false)]) 32 rfl Try.underlying44 info73 rfl (by decide) (by omega) u4 x4_1 (⟨wrap64 (4 * t141), t144, t147, t150⟩ : S73) [.int .i64 (wrap64 (4 * t141)), .int .i64 t144, .int .i64 t147, .bool t150] (fun _ => True) (fun _ => False) rfl rfl ?aP (fun _ hk => hk.elim) ?aF ?aO ?aB ?aS ?aL ?_; (case aP => exact k73_mkM _ _ _ (⟨wrap64 (4 * t141), t144, t147, t150⟩ : S73)); (case aB => exact (by repeat (first | (with_reducible first | exact HB.out | apply below_alloc | apply pw_below_drewN | apply below_drew1 | refine below_set ?_ (IsS137.ge HI131.out)) | exact HB.out))); (case aF => exact (fun _ _ => trivial)); (case aO => exact (by (with_reducible repeat (first | apply Kd.R_alloc | apply Kd.R_drewN | apply Kd.R_drew)); exact HO_4.out)); (case aS => exact (below_size (by repeat (first | (with_reducible first | exact HB.out | apply below_alloc | apply pw_below_drewN | apply below_drew1 | refine below_set ?_ (IsS137.ge HI131.out)) | exact HB.out)))); (case aL => have := LMc15.out; omega); intro v154 w20 ho hb hg hat; rw [← Ny153.out] at ho; have n0_ := Aside0.mk (IsS137.grown (by repeat (first | (with_reducible first | exact HI131.out | apply IsS137.alloc | apply IsS137.drewN | apply IsS137.drew | apply IsS137.set_1 | apply IsS137.set_2) | exact HI131.out)) hg (IsS137.own_ne HI131.out HO_4.out (by decide))); have n1_ := Aside0.mk (hb); have n2_ := Aside0.mk (ho); clear HI131; clear HB; clear HO_4; have HI131 := n0_; have HB := n1_; have HO155 := n2_; clear n0_ n1_ n2_; clear ho hb hg hat))
          go_roundg k1
          case measure => have := HK1.out; omega
          case rel => exact ⟨(y153), (wrap64 (x5_1 - 1)), (t151), (t152), (by first | rfl | (simp; done) | (simp [*]; done)), H', ⟨by have := HK1.out; omega⟩, ⟨by (with_reducible repeat (first | apply Kd.R_alloc | apply Kd.R_drewN | apply Kd.R_drew)); exact HO155.out⟩, ⟨by repeat (first | (with_reducible first | exact HI131.out | apply IsS137.alloc | apply IsS137.drewN | apply IsS137.drew | apply IsS137.set_1 | apply IsS137.set_2) | exact HI131.out)⟩, ⟨by repeat (first | (with_reducible first | exact HB.out | apply below_alloc | apply pw_below_drewN | apply below_drew1 | refine below_set ?_ (IsS137.ge HI131.out)) | exact HB.out)⟩⟩
        · rw [if_neg c15] at H
          exact absurd H (by simp)
      · rw [if_neg c10] at H
        have c10b0 : decide (0 < x5_1) = false := decide_eq_false c10
        clear c10
        replace H := Option.bind_eq_some_iff.mp H
        obtain ⟨⟨t156, t157, t158⟩, A210, H⟩ := H
        replace H : (if t156 = true then ((spec_l01Src_next.f t128 t157 t158 2).bind fun bt159 => (if 0 ≤ (wrap64 (4096 + bt159.1)) then (if (wrap64 (4096 + bt159.1) : Int).toNat ≤ 8796093022208 then (some (List.replicate (wrap64 (4096 + bt159.1) : Int).toNat z73)) else (none)) else (none))) else (some x4_1)) = some r := H
        have A21 := Aside0.mk A210
        clear A210
        by_cases c22 : t156 = true
        · subst c22
          have H1 : ((spec_l01Src_next.f t128 t157 t158 2).bind fun bt159 => (if 0 ≤ (wrap64 (4096 + bt159.1)) then (if (wrap64 (4096 + bt159.1) : Int).toNat ≤ 8796093022208 then (some (List.replicate (wrap64 (4096 + bt159.1) : Int).toNat z73)) else (none)) else (none))) = some r := by rw [if_pos rfl] at H; exact H
          clear H
          have H := H1
          clear H1
          replace H := Option.bind_eq_some_iff.mp H
          obtain ⟨⟨t159, t160, t161⟩, A230, H⟩ := H
          replace H : (if 0 ≤ (wrap64 (4096 + t159)) then (if (wrap64 (4096 + t159) : Int).toNat ≤ 8796093022208 then (some (List.replicate (wrap64 (4096 + t159) : Int).toNat z73)) else (none)) else (none)) = some r := H
          have A23 := Aside0.mk A230
          clear A230
          obtain ⟨ji24, hji24⟩ : ∃ j_ : Int, (wrap64 (4096 + t159)) = j_ := ⟨_, rfl⟩
          replace H : (if 0 ≤ (ji24) then (if (ji24 : Int).toNat ≤ 8796093022208 then (some (List.replicate (ji24 : Int).toNat z73)) else (none)) else (none)) = some r := by first | (rw [hji24] at H; exact H) | (simp only [hji24] at H ⊢; exact H)
          (try rw [hji24] at A21)
          (try rw [hji24] at A23)
          have hji24w : (IntKind.i64.wrap (4096 + t159)) = ji24 := (i64_w _).trans hji24
          by_cases c25 : 0 ≤ (ji24)
          · rw [if_pos c25] at H
            have c25b0 := eq_true c25
            have c25b1 : decide (0 ≤ (ji24)) = true := decide_eq_true c25
            clear c25
            by_cases c26 : (ji24 : Int).toNat ≤ 8796093022208
            · rw [if_pos c26] at H
              have c26b0 := eq_true c26
              have c26b1 : decide ((ji24 : Int).toNat ≤ 8796093022208) = true := decide_eq_true c26
              clear c26
              obtain ⟨y162, hy162⟩ : ∃ y_ : List (S73), y_ = (List.replicate (ji24 : Int).toNat z73) := ⟨_, rfl⟩
              replace H : (some y162) = some r := by first | (rw [hy162]; with_reducible exact H) | (have H2_ := (Option.bind_some _ _).symm.trans H; rw [hy162]; with_reducible exact H2_) | (have H2_ := (Option.bind_some _ _).symm.trans H; with_reducible exact H2_) | with_reducible exact H | (rw [hy162]; exact H) | exact H
              have Ny162 := Aside0.mk hy162
              clear hy162
              obtain rfl := Option.some.inj H
              go_wp2_with (first | ((with_reducible refine gate_callee (f := 83) rfl ?_); refine goesL_ (some 32) rfl rfl Try.func83 (by kernel_rfl) rfl #[.pointer (some ⟨g131, 0, none⟩), .int .i64 60] rfl (by (try simp only [List.map_toArray, List.map_cons, List.map_nil]); first | done | rfl | (simp only [List.length_drop, List.length_take]; rfl)) ?_; (with_reducible refine (spec_l01Src_chance.calls g131 t128 x132001_1 x132002_1 60 true t157 t158 w _ ?side1 ?side2 A21.out).mono ?_); (case side1 => repeat (first | (with_reducible first | exact HI131.out | apply IsS137.alloc | apply IsS137.drewN | apply IsS137.drew | apply IsS137.set_1 | apply IsS137.set_2) | exact HI131.out)); (case side2 => repeat (first | (with_reducible first | exact HB.out | apply below_alloc | apply pw_below_drewN | apply below_drew1 | refine below_set ?_ (IsS137.ge HI131.out)) | exact HB.out)); rintro e w27 ⟨rfl, hi, hb, hk⟩; refine ⟨_, rfl, ?_⟩; have n0_ := Aside0.mk (Kd.R_mono (Kd.R_keep (IsS137.apart (show IsS137 w _ g131 t128 x132001_1 x132002_1 from by repeat (first | (with_reducible first | exact HI131.out | apply IsS137.alloc | apply IsS137.drewN | apply IsS137.drew | apply IsS137.set_1 | apply IsS137.set_2) | exact HI131.out)) (by (with_reducible repeat (first | apply Kd.R_alloc | apply Kd.R_drewN | apply Kd.R_drew)); exact HO_4.out) (by decide)) hk (fun _ h => h.2)) (fun _ h => h.1)); have n1_ := Aside0.mk (hb); have n2_ := Aside0.mk (hi); clear HO_4; clear HB; clear HI131; have HO_4 := n0_; have HB := n1_; have HI131 := n2_; clear n0_ n1_ n2_; (try clear hb); (try clear hb2); (try clear hk); (try clear hi)) | ((with_reducible refine gate_callee (f := 81) rfl ?_); refine goesL_ (some 34) rfl rfl Try.func81 (by kernel_rfl) rfl #[.pointer (some ⟨g131, 0, none⟩), .int .i64 2] rfl (by (try simp only [List.map_toArray, List.map_cons, List.map_nil]); first | done | rfl | (simp only [List.length_drop, List.length_take]; rfl)) ?_; (with_reducible refine (spec_l01Src_next.calls g131 t128 t157 t158 2 t159 t160 t161 w _ ?side1 ?side2 A23.out).mono ?_); (case side1 => repeat (first | (with_reducible first | exact HI131.out | apply IsS137.alloc | apply IsS137.drewN | apply IsS137.drew | apply IsS137.set_1 | apply IsS137.set_2) | exact HI131.out)); (case side2 => repeat (first | (with_reducible first | exact HB.out | apply below_alloc | apply pw_below_drewN | apply below_drew1 | refine below_set ?_ (IsS137.ge HI131.out)) | exact HB.out)); rintro e w28 ⟨rfl, hi, hb, hk⟩; refine ⟨_, rfl, ?_⟩; have n0_ := Aside0.mk (Kd.R_mono (Kd.R_keep (IsS137.apart (show IsS137 w _ g131 t128 t157 t158 from by repeat (first | (with_reducible first | exact HI131.out | apply IsS137.alloc | apply IsS137.drewN | apply IsS137.drew | apply IsS137.set_1 | apply IsS137.set_2) | exact HI131.out)) (by (with_reducible repeat (first | apply Kd.R_alloc | apply Kd.R_drewN | apply Kd.R_drew)); exact HO_4.out) (by decide)) hk (fun _ h => h.2)) (fun _ h => h.1)); have n1_ := Aside0.mk (hb); have n2_ := Aside0.mk (hi); clear HO_4; clear HB; clear HI131; have HO_4 := n0_; have HB := n1_; have HI131 := n2_; clear n0_ n1_ n2_; (try clear hb); (try clear hb2); (try clear hk); (try clear hi)) | ((with_reducible refine gate_dst (N := 36) rfl ?_); refine Kd.R_make k73 _ 73 rfl (N := 36) rfl 44 _ _ rfl ji24 rfl rfl Try.underlying44 (.agg #[(.int .i64 0), (.int .i64 0), (.int .i64 0), (.bool false)]) 32 info73 rfl (by decide) (by omega) z73 (ok := fun _ => True) (okp := fun _ => True) (k73_mkM _ _ _ z73 ) (fun _ hk => hk) trivial (of_decide_eq_true (by first | (with_reducible assumption) | assumption)) (Nat.le_trans (Nat.mul_le_mul_right _ (of_decide_eq_true (by first | (with_reducible assumption) | assumption) : ji24.toNat ≤ 8796093022208)) (by omega)) (Below.refl _ _) (Nat.le_refl _) ?_; intro v163 w29 ho30 hb hg_ hnew_; clear hg_ hnew_; (first | rw [← Ny162.out] at ho30 | (simp only [Int.reduceToNat] at ho30; rw [← Ny162.out] at ho30)); have n0_ := Aside0.mk (Kd.R_elder' (by (with_reducible repeat (first | apply Kd.R_alloc | apply Kd.R_drewN | apply Kd.R_drew)); exact HO_4.out) (Kd.R_base ho30) hb); have n1_ := Aside0.mk (Kd.R_lower (Kd.R_new' ho30 (Kd.R_lt (by (with_reducible repeat (first | apply Kd.R_alloc | apply Kd.R_drewN | apply Kd.R_drew)); exact HO_4.out))) (below_size (by repeat (first | (with_reducible first | exact HB.out | apply below_alloc | apply pw_below_drewN | apply below_drew1 | refine below_set ?_ (IsS137.ge HI131.out)) | exact HB.out)))); have n2_ := Aside0.mk (IsS137.below (by repeat (first | (with_reducible first | exact HI131.out | apply IsS137.alloc | apply IsS137.drewN | apply IsS137.drew | apply IsS137.set_1 | apply IsS137.set_2) | exact HI131.out)) hb); have n3_ := Aside0.mk (below_step (by repeat (first | (with_reducible first | exact HB.out | apply below_alloc | apply pw_below_drewN | apply below_drew1 | refine below_set ?_ (IsS137.ge HI131.out)) | exact HB.out)) hb); clear HO_4; clear HI131; clear HB; have HO_4 := n0_; have HO164 := n1_; have HI131 := n2_; have HB := n3_; clear n0_ n1_ n2_ n3_; clear hb ho30))
              go_ret
              exact ⟨_, by first | rfl | (simp [errW_none, errW_some] <;> rfl) | (simp only [← hji24]; first | rfl | (simp [errW_none, errW_some] <;> rfl)) | (simp [*, errW_none, errW_some] <;> rfl), by (with_reducible repeat (first | apply Kd.R_alloc | apply Kd.R_drewN | apply Kd.R_drew)); exact Kd.R_mono HO164.out (fun _ hk => trivial), by repeat (first | (with_reducible first | exact HB.out | apply below_alloc | apply pw_below_drewN | apply below_drew1 | refine below_set ?_ (IsS137.ge HI131.out)) | exact HB.out)⟩
            · rw [if_neg c26] at H
              exact absurd H (by simp)
          · rw [if_neg c25] at H
            exact absurd H (by simp)
        · replace c22 := Bool.eq_false_iff.mpr c22
          subst c22
          have H1 : (some x4_1) = some r := by rw [if_neg (show ¬ (false = true) by decide)] at H; exact H
          clear H
          have H := H1
          clear H1
          obtain rfl := Option.some.inj H
          go_wp2_with (first | ((with_reducible refine gate_callee (f := 83) rfl ?_); refine goesL_ (some 32) rfl rfl Try.func83 (by kernel_rfl) rfl #[.pointer (some ⟨g131, 0, none⟩), .int .i64 60] rfl (by (try simp only [List.map_toArray, List.map_cons, List.map_nil]); first | done | rfl | (simp only [List.length_drop, List.length_take]; rfl)) ?_; (with_reducible refine (spec_l01Src_chance.calls g131 t128 x132001_1 x132002_1 60 false t157 t158 w _ ?side1 ?side2 A21.out).mono ?_); (case side1 => repeat (first | (with_reducible first | exact HI131.out | apply IsS137.alloc | apply IsS137.drewN | apply IsS137.drew | apply IsS137.set_1 | apply IsS137.set_2) | exact HI131.out)); (case side2 => repeat (first | (with_reducible first | exact HB.out | apply below_alloc | apply pw_below_drewN | apply below_drew1 | refine below_set ?_ (IsS137.ge HI131.out)) | exact HB.out)); rintro e w31 ⟨rfl, hi, hb, hk⟩; refine ⟨_, rfl, ?_⟩; have n0_ := Aside0.mk (Kd.R_mono (Kd.R_keep (IsS137.apart (show IsS137 w _ g131 t128 x132001_1 x132002_1 from by repeat (first | (with_reducible first | exact HI131.out | apply IsS137.alloc | apply IsS137.drewN | apply IsS137.drew | apply IsS137.set_1 | apply IsS137.set_2) | exact HI131.out)) (by (with_reducible repeat (first | apply Kd.R_alloc | apply Kd.R_drewN | apply Kd.R_drew)); exact HO_4.out) (by decide)) hk (fun _ h => h.2)) (fun _ h => h.1)); have n1_ := Aside0.mk (hb); have n2_ := Aside0.mk (hi); clear HO_4; clear HB; clear HI131; have HO_4 := n0_; have HB := n1_; have HI131 := n2_; clear n0_ n1_ n2_; (try clear hb); (try clear hb2); (try clear hk); (try clear hi)))
          go_ret
          exact ⟨_, by first | rfl | (simp [errW_none, errW_some] <;> rfl) | (simp [*, errW_none, errW_some] <;> rfl), by (with_reducible repeat (first | apply Kd.R_alloc | apply Kd.R_drewN | apply Kd.R_drew)); exact HO_4.out, by repeat (first | (with_reducible first | exact HB.out | apply below_alloc | apply pw_below_drewN | apply below_drew1 | refine below_set ?_ (IsS137.ge HI131.out)) | exact HB.out)⟩

/-! ### laws_FnNext: function 11 -/
mutual
def laws_FnNext.l0 : Nat → List (S73) → Int → Option (Bool)
  | 0, _, _ => none
  | k + 1, x3, x4 => if (x3.length : Int) > 0 then ((some (([] : List (S73)) : List (S73))).bind fun y171 => (if y171.length + x3.length < 4398046511104 then ((impl_NextStream.f k (y171 ++ x3)).bind fun t177 => (if t177 < 0 then (laws_FnNext.j1 k x3 x4 t177 true) else (laws_FnNext.j1 k x3 x4 t177 (decide (t177 ≥ (x3.length : Int)))))) else (none))) else ((impl_NextStream.f k x3).bind fun t170 => (some (t170 == (-1))))
def laws_FnNext.j1 : Nat → List (S73) → Int → Int → Bool → Option (Bool)
  | 0, _, _, _, _ => none
  | k + 1, x3, x4, x5, x37 => if x37 = true then (some false) else (if 0 ≤ x5 then (if x5 < (x3.length : Int) then (laws_FnNext.l1 k x3 x4 x5 0 ((rd_T73 x3 x5).f0) ((rd_T73 x3 x5).f1) ((rd_T73 x3 x5).f2) ((rd_T73 x3 x5).f3)) else (none)) else (none))
def laws_FnNext.l1 : Nat → List (S73) → Int → Int → Int → Int → Int → Int → Bool → Option (Bool)
  | 0, _, _, _, _, _, _, _, _ => none
  | k + 1, x3, x4, x5, x7, x180000, x180001, x180002, x180003 => if x7 < (x3.length : Int) then (if 0 ≤ x7 then (if ((rd_T73 x3 x7).f1) < x180001 then (some false) else (if ((rd_T73 x3 x7).f1) = x180001 then (if x180003 = true then (if ((rd_T73 x3 x7).f3 = true) then (if (rd_T73 x3 x7).f3 = true then (if ((rd_T73 x3 x7).f2) < x180002 then (some false) else (laws_FnNext.l1 k x3 x4 x5 (wrap64 (x7 + 1)) x180000 x180001 x180002 x180003)) else (laws_FnNext.l1 k x3 x4 x5 (wrap64 (x7 + 1)) x180000 x180001 x180002 x180003)) else (some false)) else (if ((rd_T73 x3 x7).f3 = true) then (laws_FnNext.l1 k x3 x4 x5 (wrap64 (x7 + 1)) x180000 x180001 x180002 x180003) else (if ((rd_T73 x3 x7).f0) < x180000 then (some false) else (laws_FnNext.l1 k x3 x4 x5 (wrap64 (x7 + 1)) x180000 x180001 x180002 x180003)))) else (laws_FnNext.l1 k x3 x4 x5 (wrap64 (x7 + 1)) x180000 x180001 x180002 x180003))) else (none)) else (if x180001 < x4 then (some false) else ((some (([] : List (S73)) : List (S73))).bind fun y182 => (if 0 ≤ x5 then (if x5 ≤ (x3.length : Int) then ((some (x3.take (x5 : Int).toNat : List (S73))).bind fun y185 => (if y182.length + y185.length < 4398046511104 then ((some (y182 ++ y185 : List (S73))).bind fun y189 => (if 0 ≤ (wrap64 (x5 + 1)) then (if (wrap64 (x5 + 1)) ≤ (x3.length : Int) then ((some (x3.drop ((wrap64 (x5 + 1)) : Int).toNat : List (S73))).bind fun y192 => (if y189.length + y192.length < 4398046511104 then (laws_FnNext.l0 k (y189 ++ y192) x180001) else (none))) else (none)) else (none))) else (none))) else (none)) else (none))))
end
def laws_FnNext.f (k : Nat) (l0 : List Int) : Option (Bool) := if (l0.length : Int) > 1048576 then (some true) else ((spec_DrawNextStream.f k l0).bind fun t165 => (if (t165.length : Int) > 60 then ((impl_NextStream.f k t165).bind fun t168 => ((spec_NextStream.f k t165).bind fun t169 => (some (t168 == t169)))) else (laws_FnNext.l0 k t165 (-1))))
theorem laws_FnNext.mono_l : ∀ k, (∀ y0 y1, LeO (laws_FnNext.l0 k y0 y1) (laws_FnNext.l0 (k + 1) y0 y1)) ∧ (∀ y0 y1 y2 y3, LeO (laws_FnNext.j1 k y0 y1 y2 y3) (laws_FnNext.j1 (k + 1) y0 y1 y2 y3)) ∧ (∀ y0 y1 y2 y3 y4 y5 y6 y7, LeO (laws_FnNext.l1 k y0 y1 y2 y3 y4 y5 y6 y7) (laws_FnNext.l1 (k + 1) y0 y1 y2 y3 y4 y5 y6 y7))
  | 0 => ⟨fun _ _ r h => by simp [laws_FnNext.l0] at h, fun _ _ _ _ r h => by simp [laws_FnNext.j1] at h, fun _ _ _ _ _ _ _ _ r h => by simp [laws_FnNext.l1] at h⟩
  | k + 1 => by
    obtain ⟨ih0, ih1, ih2⟩ := laws_FnNext.mono_l k
    refine ⟨?_, ?_, ?_⟩
    · intro y0 y1
      unfold laws_FnNext.l0
      repeat' first
      | (with_reducible exact ih0 _ _)
      | (with_reducible exact ih1 _ _ _ _)
      | (with_reducible exact ih2 _ _ _ _ _ _ _ _)
      | (with_reducible exact impl_NextStream.mono _ _)
      | (with_reducible exact spec_DrawNextStream.mono _ _)
      | (with_reducible exact spec_NextStream.mono _ _)
      | (with_reducible exact LeO.refl _)
      | (with_reducible exact LeO.none _)
      | (with_reducible refine LeO.ite ?_ ?_)
      | (with_reducible refine LeO.bind ?_ (fun _ => ?_))
      | exact ih0 _ _
      | exact ih1 _ _ _ _
      | exact ih2 _ _ _ _ _ _ _ _
      | exact impl_NextStream.mono _ _
      | exact spec_DrawNextStream.mono _ _
      | exact spec_NextStream.mono _ _
      | exact LeO.none _
      | refine LeO.ite ?_ ?_
      | refine LeO.bind ?_ (fun _ => ?_)
    · intro y0 y1 y2 y3
      unfold laws_FnNext.j1
      repeat' first
      | (with_reducible exact ih0 _ _)
      | (with_reducible exact ih1 _ _ _ _)
      | (with_reducible exact ih2 _ _ _ _ _ _ _ _)
      | (with_reducible exact impl_NextStream.mono _ _)
      | (with_reducible exact spec_DrawNextStream.mono _ _)
      | (with_reducible exact spec_NextStream.mono _ _)
      | (with_reducible exact LeO.refl _)
      | (with_reducible exact LeO.none _)
      | (with_reducible refine LeO.ite ?_ ?_)
      | (with_reducible refine LeO.bind ?_ (fun _ => ?_))
      | exact ih0 _ _
      | exact ih1 _ _ _ _
      | exact ih2 _ _ _ _ _ _ _ _
      | exact impl_NextStream.mono _ _
      | exact spec_DrawNextStream.mono _ _
      | exact spec_NextStream.mono _ _
      | exact LeO.none _
      | refine LeO.ite ?_ ?_
      | refine LeO.bind ?_ (fun _ => ?_)
    · intro y0 y1 y2 y3 y4 y5 y6 y7
      unfold laws_FnNext.l1
      repeat' first
      | (with_reducible exact ih0 _ _)
      | (with_reducible exact ih1 _ _ _ _)
      | (with_reducible exact ih2 _ _ _ _ _ _ _ _)
      | (with_reducible exact impl_NextStream.mono _ _)
      | (with_reducible exact spec_DrawNextStream.mono _ _)
      | (with_reducible exact spec_NextStream.mono _ _)
      | (with_reducible exact LeO.refl _)
      | (with_reducible exact LeO.none _)
      | (with_reducible refine LeO.ite ?_ ?_)
      | (with_reducible refine LeO.bind ?_ (fun _ => ?_))
      | exact ih0 _ _
      | exact ih1 _ _ _ _
      | exact ih2 _ _ _ _ _ _ _ _
      | exact impl_NextStream.mono _ _
      | exact spec_DrawNextStream.mono _ _
      | exact spec_NextStream.mono _ _
      | exact LeO.none _
      | refine LeO.ite ?_ ?_
      | refine LeO.bind ?_ (fun _ => ?_)
theorem laws_FnNext.mono : ∀ a0 k, LeO (laws_FnNext.f k a0) (laws_FnNext.f (k + 1) a0) := by
  intro a0 k
  obtain ⟨ih0, ih1, ih2⟩ := laws_FnNext.mono_l k
  unfold laws_FnNext.f
  repeat' first
      | (with_reducible exact ih0 _ _)
      | (with_reducible exact ih1 _ _ _ _)
      | (with_reducible exact ih2 _ _ _ _ _ _ _ _)
      | (with_reducible exact impl_NextStream.mono _ _)
      | (with_reducible exact spec_DrawNextStream.mono _ _)
      | (with_reducible exact spec_NextStream.mono _ _)
      | (with_reducible exact LeO.refl _)
      | (with_reducible exact LeO.none _)
      | (with_reducible refine LeO.ite ?_ ?_)
      | (with_reducible refine LeO.bind ?_ (fun _ => ?_))
      | exact ih0 _ _
      | exact ih1 _ _ _ _
      | exact ih2 _ _ _ _ _ _ _ _
      | exact impl_NextStream.mono _ _
      | exact spec_DrawNextStream.mono _ _
      | exact spec_NextStream.mono _ _
      | exact LeO.none _
      | refine LeO.ite ?_ ?_
      | refine LeO.bind ?_ (fun _ => ?_)
set_option maxHeartbeats 8000000 in
set_option maxRecDepth 100000 in
theorem laws_FnNext.calls (k : Nat) (A0 : Option Addr) (c0 : Nat) (l0 : List Int) (r : Bool) (w : World) (hr0 : Kd.C (Kd.int .u8) w A0 l0.length l0) (hc0 : l0.length ≤ c0) (h : laws_FnNext.f k l0 = some r) :
    Calls Try.prog 11 #[.slice A0 l0.length c0] w fun e w' => e = .returned (.bool r) ∧ Below w.heap.size w w' := by
  have hu73 := Try.underlying73
  have HR0 := Aside0.mk hr0
  have HC0 := Aside0.mk hc0
  clear hr0 hc0
  have HB := Aside0.mk (Below.refl w.heap.size w)
  have H : (if (l0.length : Int) > 1048576 then (some true) else ((spec_DrawNextStream.f k l0).bind fun t165 => (if (t165.length : Int) > 60 then ((impl_NextStream.f k t165).bind fun t168 => ((spec_NextStream.f k t165).bind fun t169 => (some (t168 == t169)))) else (laws_FnNext.l0 k t165 (-1))))) = some r := h
  clear h
  by_cases c2 : (l0.length : Int) > 1048576
  · rw [if_pos c2] at H
    have c2b0 : decide (1048576 < (l0.length : Int)) = true := decide_eq_true c2
    have c2b1 : decide (1048576 < l0.length) = true := decide_eq_true (by omega)
    clear c2
    obtain rfl := Option.some.inj H
    go_enter Try.func11, Try.ntmps11
    go_wp2
    go_ret
    exact ⟨by first | rfl | (simp [errW_none, errW_some] <;> rfl) | (simp [*, errW_none, errW_some] <;> rfl), by repeat (first | (with_reducible first | exact HB.out | apply below_alloc | apply pw_below_drewN | apply below_drew1) | exact HB.out)⟩
  · rw [if_neg c2] at H
    have c2b0 : decide (1048576 < (l0.length : Int)) = false := decide_eq_false c2
    have c2b1 : decide (1048576 < l0.length) = false := decide_eq_false (by omega)
    clear c2
    replace H := Option.bind_eq_some_iff.mp H
    obtain ⟨t165, A30, H⟩ := H
    replace H : (if (t165.length : Int) > 60 then ((impl_NextStream.f k t165).bind fun t168 => ((spec_NextStream.f k t165).bind fun t169 => (some (t168 == t169)))) else (laws_FnNext.l0 k t165 (-1))) = some r := H
    have A3 := Aside0.mk A30
    clear A30
    by_cases c4 : (t165.length : Int) > 60
    · rw [if_pos c4] at H
      have c4b0 : decide (60 < (t165.length : Int)) = true := decide_eq_true c4
      have c4b1 : decide (60 < t165.length) = true := decide_eq_true (by omega)
      clear c4
      replace H := Option.bind_eq_some_iff.mp H
      obtain ⟨t168, A50, H⟩ := H
      replace H : ((spec_NextStream.f k t165).bind fun t169 => (some (t168 == t169))) = some r := H
      have A5 := Aside0.mk A50
      clear A50
      replace H := Option.bind_eq_some_iff.mp H
      obtain ⟨t169, A60, H⟩ := H
      replace H : (some (t168 == t169)) = some r := H
      have A6 := Aside0.mk A60
      clear A60
      obtain rfl := Option.some.inj H
      go_enter Try.func11, Try.ntmps11
      go_wp2_with (first | ((with_reducible refine gate_callee (f := 47) rfl ?_); refine goesL_ (some 14) rfl rfl Try.func47 (by kernel_rfl) rfl #[.slice A0 l0.length c0] rfl (by (try simp only [List.map_toArray, List.map_cons, List.map_nil]); first | done | rfl | (simp only [List.length_drop, List.length_take]; rfl)) ?_; (with_reducible refine (spec_DrawNextStream.calls k _ _ l0 t165 _ ?side1 ?side2 A3.out).mono ?_); (case side1 => repeat (first | exact HR0.out | (with_reducible refine Kd.C_alloc ?_ _) | (with_reducible refine Kd.C_drewN ?_ _) | (with_reducible refine Kd.C_drew ?_))); (case side2 => exact HC0.out); rintro e w7 ⟨v166, rfl, ho0, hb⟩; refine ⟨_, rfl, ?_⟩; have n0_ := Aside0.mk (Kd.R_lower ho0 (below_size (by repeat (first | (with_reducible first | exact HB.out | apply below_alloc | apply pw_below_drewN | apply below_drew1) | exact HB.out)))); have n1_ := Aside0.mk (below_step (by repeat (first | (with_reducible first | exact HB.out | apply below_alloc | apply pw_below_drewN | apply below_drew1) | exact HB.out)) hb); clear HB; have HO167 := n0_; have HB := n1_; clear n0_ n1_; (try clear hb); (try clear hb2); (try clear hk); (try clear hi); (try clear ho0); obtain ⟨Ao8, co8, eo8⟩ := Kd.R_slice HO167.out; subst eo8) | ((with_reducible refine gate_callee (f := 32) rfl ?_); refine goesL_ (some 19) rfl rfl Try.func32 (by kernel_rfl) rfl #[.slice Ao8 t165.length co8] rfl (by (try simp only [List.map_toArray, List.map_cons, List.map_nil]); first | done | rfl | (simp only [List.length_drop, List.length_take]; rfl)) ?_; (with_reducible refine (impl_NextStream.calls k _ _ t165 t168 _ ?side1 ?side2 A5.out).mono ?_); (case side1 => repeat (first | exact (Kd.R_reads' HO167.out).2.2 | (with_reducible refine Kd.C_alloc ?_ _) | (with_reducible refine Kd.C_drewN ?_ _) | (with_reducible refine Kd.C_drew ?_))); (case side2 => exact (Kd.R_reads' HO167.out).2.1); rintro e w9 ⟨rfl, hb⟩; refine ⟨_, rfl, ?_⟩; have n0_ := Aside0.mk (Kd.R_below (by (with_reducible repeat (first | apply Kd.R_alloc | apply Kd.R_drewN | apply Kd.R_drew)); exact HO167.out) hb); have n1_ := Aside0.mk (below_step (by repeat (first | (with_reducible first | exact HB.out | apply below_alloc | apply pw_below_drewN | apply below_drew1) | exact HB.out)) hb); clear HO167; clear HB; have HO167 := n0_; have HB := n1_; clear n0_ n1_; (try clear hb); (try clear hb2); (try clear hk); (try clear hi)) | ((with_reducible refine gate_callee (f := 30) rfl ?_); refine goesL_ (some 21) rfl rfl Try.func30 (by kernel_rfl) rfl #[.slice Ao8 t165.length co8] rfl (by (try simp only [List.map_toArray, List.map_cons, List.map_nil]); first | done | rfl | (simp only [List.length_drop, List.length_take]; rfl)) ?_; (with_reducible refine (spec_NextStream.calls k _ _ t165 t169 _ ?side1 ?side2 A6.out).mono ?_); (case side1 => repeat (first | exact (Kd.R_reads' HO167.out).2.2 | (with_reducible refine Kd.C_alloc ?_ _) | (with_reducible refine Kd.C_drewN ?_ _) | (with_reducible refine Kd.C_drew ?_))); (case side2 => exact (Kd.R_reads' HO167.out).2.1); rintro e w10 ⟨rfl, hb⟩; refine ⟨_, rfl, ?_⟩; have n0_ := Aside0.mk (Kd.R_below (by (with_reducible repeat (first | apply Kd.R_alloc | apply Kd.R_drewN | apply Kd.R_drew)); exact HO167.out) hb); have n1_ := Aside0.mk (below_step (by repeat (first | (with_reducible first | exact HB.out | apply below_alloc | apply pw_below_drewN | apply below_drew1) | exact HB.out)) hb); clear HO167; clear HB; have HO167 := n0_; have HB := n1_; clear n0_ n1_; (try clear hb); (try clear hb2); (try clear hk); (try clear hi)))
      go_ret
      exact ⟨by first | rfl | (simp [errW_none, errW_some] <;> rfl) | (simp [*, errW_none, errW_some] <;> rfl), by repeat (first | (with_reducible first | exact HB.out | apply below_alloc | apply pw_below_drewN | apply below_drew1) | exact HB.out)⟩
    · rw [if_neg c4] at H
      have c4b0 : decide (60 < (t165.length : Int)) = false := decide_eq_false c4
      have c4b1 : decide (60 < t165.length) = false := decide_eq_false (by omega)
      clear c4
      have H' := Aside0.mk H
      clear H
      go_enter Try.func11, Try.ntmps11
      go_wp2_with (first | ((with_reducible refine gate_callee (f := 47) rfl ?_); refine goesL_ (some 14) rfl rfl Try.func47 (by kernel_rfl) rfl #[.slice A0 l0.length c0] rfl (by (try simp only [List.map_toArray, List.map_cons, List.map_nil]); first | done | rfl | (simp only [List.length_drop, List.length_take]; rfl)) ?_; (with_reducible refine (spec_DrawNextStream.calls k _ _ l0 t165 _ ?side1 ?side2 A3.out).mono ?_); (case side1 => repeat (first | exact HR0.out | (with_reducible refine Kd.C_alloc ?_ _) | (with_reducible refine Kd.C_drewN ?_ _) | (with_reducible refine Kd.C_drew ?_))); (case side2 => exact HC0.out); rintro e w11 ⟨v166, rfl, ho0, hb⟩; refine ⟨_, rfl, ?_⟩; have n0_ := Aside0.mk (Kd.R_lower ho0 (below_size (by repeat (first | (with_reducible first | exact HB.out | apply below_alloc | apply pw_below_drewN | apply below_drew1) | exact HB.out)))); have n1_ := Aside0.mk (below_step (by repeat (first | (with_reducible first | exact HB.out | apply below_alloc | apply pw_below_drewN | apply below_drew1) | exact HB.out)) hb); clear HB; have HO167 := n0_; have HB := n1_; clear n0_ n1_; (try clear hb); (try clear hb2); (try clear hk); (try clear hi); (try clear ho0); obtain ⟨Ao12, co12, eo12⟩ := Kd.R_slice HO167.out; subst eo12))
      go_loopg [3, 4] k (fun kq v3 v4 w' => ∃ (x3_1 : List (S73)) (x4_1 : Int), v4 = .int .i64 x4_1 ∧ Aside0 (laws_FnNext.l0 kq x3_1 x4_1 = some r) ∧ Aside0 (kq ≤ k) ∧ Aside0 (Kd.R k73 73 w' w.heap.size (fun _ => True) v3 x3_1) ∧ Aside0 (Below w.heap.size w w'))
      case atStart => exact ⟨(t165), ((-1)), (by first | rfl | (simp; done) | (simp [*]; done)), H', ⟨Nat.le_refl _⟩, ⟨by (with_reducible repeat (first | apply Kd.R_alloc | apply Kd.R_drewN | apply Kd.R_drew)); exact HO167.out⟩, ⟨by repeat (first | (with_reducible first | exact HB.out | apply below_alloc | apply pw_below_drewN | apply below_drew1) | exact HB.out)⟩⟩
      case round =>
        clear H'
        try clear c1
        try clear c2
        try clear c2b0
        try clear c2b1
        try clear p2
        try clear c3
        try clear c4
        try clear c4b0
        try clear c4b1
        try clear c11
        obtain ⟨x3_1, x4_1, rfl, HA, HK1, HO_3, HB⟩ := hrel
        cases gk with
        | zero => exact absurd HA.out (by simp [laws_FnNext.l0])
        | succ k1 =>
          have H := HA.out
          clear HA
          simp only [laws_FnNext.l0] at H
          by_cases c13 : (x3_1.length : Int) > 0
          · rw [if_pos c13] at H
            have c13b0 : decide (0 < (x3_1.length : Int)) = true := decide_eq_true c13
            have c13b1 : decide (0 < x3_1.length) = true := decide_eq_true (by omega)
            clear c13
            obtain ⟨y171, hy171⟩ : ∃ y_ : List (S73), y_ = (([] : List (S73))) := ⟨_, rfl⟩
            replace H : (if y171.length + x3_1.length < 4398046511104 then ((impl_NextStream.f k1 (y171 ++ x3_1)).bind fun t177 => (if t177 < 0 then (laws_FnNext.j1 k1 x3_1 x4_1 t177 true) else (laws_FnNext.j1 k1 x3_1 x4_1 t177 (decide (t177 ≥ (x3_1.length : Int)))))) else (none)) = some r := by first | (rw [hy171]; with_reducible exact H) | (have H2_ := (Option.bind_some _ _).symm.trans H; rw [hy171]; with_reducible exact H2_) | (have H2_ := (Option.bind_some _ _).symm.trans H; with_reducible exact H2_) | with_reducible exact H | (rw [hy171]; exact H) | exact H
            have Ny171 := Aside0.mk hy171
            clear hy171
            by_cases c14 : y171.length + x3_1.length < 4398046511104
            · rw [if_pos c14] at H
              have LMc14 := Aside0.mk c14
              clear c14
              obtain ⟨y174, hy174⟩ : ∃ y_ : List (S73), y_ = (y171 ++ x3_1) := ⟨_, rfl⟩
              replace H : ((impl_NextStream.f k1 y174).bind fun t177 => (if t177 < 0 then (laws_FnNext.j1 k1 x3_1 x4_1 t177 true) else (laws_FnNext.j1 k1 x3_1 x4_1 t177 (decide (t177 ≥ (x3_1.length : Int)))))) = some r := by first | (rw [hy174]; with_reducible exact H) | (have H2_ := (Option.bind_some _ _).symm.trans H; rw [hy174]; with_reducible exact H2_) | (have H2_ := (Option.bind_some _ _).symm.trans H; with_reducible exact H2_) | with_reducible exact H | (rw [hy174]; exact H) | exact H
              have Ny174 := Aside0.mk hy174
              clear hy174
              replace H := Option.bind_eq_some_iff.mp H
              obtain ⟨t177, A150, H⟩ := H
              replace H : (if t177 < 0 then (laws_FnNext.j1 k1 x3_1 x4_1 t177 true) else (laws_FnNext.j1 k1 x3_1 x4_1 t177 (decide (t177 ≥ (x3_1.length : Int))))) = some r := H
              have A15 := Aside0.mk A150
              clear A150
              have HC16 := Aside0.mk H
              clear H
              obtain ⟨Ao17, co17, eo17⟩ := Kd.R_slice HO_3.out
              subst eo17
              go_upto_region 9 with (first | ((with_reducible refine gate_dst (N := 26) rfl ?_); (try (refine gate_guard (by rfl) ?_; dsimp only)); refine Kd.R_lit k73 _ 73 ?hg (N := 26) ?hd (xs := ([] : List (S73))) (inner := []) (ok := fun _ => True) (okp := fun _ => True) ?hr ?hp (fun _ hk => hk) trivial (Below.refl _ _) (Nat.le_refl _) (by simp) ?_; (case hd => rfl); (case hg => rfl); (case hr => first | (go_simp; done) | (go_simp; rfl)); (case hp => exact (Reps.none _ _)); intro v172 w18 ho19 hb hg_ hnew_; clear hg_ hnew_; (first | rw [← Ny171.out] at ho19 | (simp only [Int.reduceToNat] at ho19; rw [← Ny171.out] at ho19)); have n0_ := Aside0.mk (Kd.R_elder' (by (with_reducible repeat (first | apply Kd.R_alloc | apply Kd.R_drewN | apply Kd.R_drew)); exact HO_3.out) (Kd.R_base ho19) hb); have n1_ := Aside0.mk (Kd.R_lower (Kd.R_new' ho19 (Kd.R_lt (by (with_reducible repeat (first | apply Kd.R_alloc | apply Kd.R_drewN | apply Kd.R_drew)); exact HO_3.out))) (below_size (by repeat (first | (with_reducible first | exact HB.out | apply below_alloc | apply pw_below_drewN | apply below_drew1) | exact HB.out)))); have n2_ := Aside0.mk (below_step (by repeat (first | (with_reducible first | exact HB.out | apply below_alloc | apply pw_below_drewN | apply below_drew1) | exact HB.out)) hb); clear HO_3; clear HB; have HO_3 := n0_; have HO173 := n1_; have HB := n2_; clear n0_ n1_ n2_; clear hb ho19) | ((with_reducible refine gate_builtin (b := .append) (xs := #[.tmp 26, .tmp 27]) rfl ?_); (try (refine gate_guard (by rfl) ?_; dsimp only)); at_builtin; refine Kd.R_append_rows k73 (w0 := w) w.heap.size rfl (.tmp 26) (.tmp 27) 44 73 (.agg #[(.int .i64 0), (.int .i64 0), (.int .i64 0), (.bool false)]) 32 rfl Try.underlying44 info73 rfl (by decide) (by omega) v172 y171 x3_1 _ _ _ (fun k_ => some k_ ≠ (.slice Ao17 x3_1.length co17 : Value).ownBlock) (fun _ => False) rfl rfl ?aO ?aR (fun _ _ h => h) (fun _ h => h.elim) ?aF ?aB ?aS ?aL ?_; (case aR => repeat (first | exact (Kd.R_reads' HO_3.out).2.2 | (with_reducible refine Kd.C_alloc ?_ _) | (with_reducible refine Kd.C_drewN ?_ _) | (with_reducible refine Kd.C_drew ?_))); (case aB => exact (by repeat (first | (with_reducible first | exact HB.out | apply below_alloc | apply pw_below_drewN | apply below_drew1) | exact HB.out))); (case aF => exact (fun k_ hk => Kd.fresh' (Kd.R_lt (by (with_reducible repeat (first | apply Kd.R_alloc | apply Kd.R_drewN | apply Kd.R_drew)); exact HO_3.out)) k_ hk)); (case aO => exact (by (with_reducible repeat (first | apply Kd.R_alloc | apply Kd.R_drewN | apply Kd.R_drew)); exact Kd.R_mono HO173.out (fun _ hk => hk.2))); (case aS => exact (below_size (by repeat (first | (with_reducible first | exact HB.out | apply below_alloc | apply pw_below_drewN | apply below_drew1) | exact HB.out)))); (case aL => have := LMc14.out; omega); intro v175 w20 ho hb hg hat; rw [← Ny174.out] at ho; have n0_ := Aside0.mk (Kd.R_after (ok := (fun _ => True)) (by (with_reducible repeat (first | apply Kd.R_alloc | apply Kd.R_drewN | apply Kd.R_drew)); exact HO_3.out) hg hat); have n1_ := Aside0.mk (hb); have n2_ := Aside0.mk (ho); clear HO_3; clear HB; clear HO173; have HO_3 := n0_; have HB := n1_; have HO176 := n2_; clear n0_ n1_ n2_; clear ho hb hg hat; obtain ⟨Ao21, co21, eo21⟩ := Kd.R_slice HO176.out; subst eo21) | ((with_reducible refine gate_callee (f := 32) rfl ?_); refine goesL_ (some 29) rfl rfl Try.func32 (by kernel_rfl) rfl #[.slice Ao21 y174.length co21] rfl (by (try simp only [List.map_toArray, List.map_cons, List.map_nil]); first | done | rfl | (simp only [List.length_drop, List.length_take]; rfl)) ?_; (with_reducible refine (impl_NextStream.calls k1 _ _ y174 t177 _ ?side1 ?side2 A15.out).mono ?_); (case side1 => repeat (first | exact (Kd.R_reads' HO176.out).2.2 | (with_reducible refine Kd.C_alloc ?_ _) | (with_reducible refine Kd.C_drewN ?_ _) | (with_reducible refine Kd.C_drew ?_))); (case side2 => exact (Kd.R_reads' HO176.out).2.1); rintro e w22 ⟨rfl, hb⟩; refine ⟨_, rfl, ?_⟩; have n0_ := Aside0.mk (Kd.R_below (by (with_reducible repeat (first | apply Kd.R_alloc | apply Kd.R_drewN | apply Kd.R_drew)); exact HO_3.out) hb); have n1_ := Aside0.mk (Kd.R_below (by (with_reducible repeat (first | apply Kd.R_alloc | apply Kd.R_drewN | apply Kd.R_drew)); exact HO176.out) hb); have n2_ := Aside0.mk (below_step (by repeat (first | (with_reducible first | exact HB.out | apply below_alloc | apply pw_below_drewN | apply below_drew1) | exact HB.out)) hb); clear HO_3; clear HO176; clear HB; have HO_3 := n0_; have HO176 := n1_; have HB := n2_; clear n0_ n1_ n2_; (try clear hb); (try clear hb2); (try clear hk); (try clear hi)))
              (try simp only [Act.put, List.setIfInBounds_toArray, List.set_cons_zero, List.set_cons_succ])
              go_cut [37] (fun v37 wc => ∃ (kq : Nat) (x37_15 : Bool), v37 = .bool x37_15 ∧ Aside0 (laws_FnNext.j1 kq x3_1 x4_1 t177 x37_15 = some r) ∧ Aside0 (kq ≤ k1) ∧ Aside0 (Kd.R k73 73 wc w.heap.size (fun _ => True) (.slice Ao17 x3_1.length co17) x3_1) ∧ Aside0 (Below w.heap.size w wc))
              case first =>
                have H := HC16.out
                clear HC16
                by_cases c23 : t177 < 0
                · rw [if_pos c23] at H
                  have c23b0 : decide (t177 < 0) = true := decide_eq_true c23
                  clear c23
                  (first | rw [c23b0] | (simp only [i64_w, i32_w]; rw [c23b0]) | skip)
                  have H' := Aside0.mk H
                  clear H
                  go_wp2
                  go_meet
                  case rel => exact ⟨_, (true), (by first | rfl | (simp; done) | (simp [*]; done)), H', ⟨by have := HK1.out; first | omega | exact Nat.le_refl _⟩, ⟨by (with_reducible repeat (first | apply Kd.R_alloc | apply Kd.R_drewN | apply Kd.R_drew)); exact Kd.R_mono HO_3.out (fun _ hk => trivial)⟩, ⟨by repeat (first | (with_reducible first | exact HB.out | apply below_alloc | apply pw_below_drewN | apply below_drew1) | exact HB.out)⟩⟩
                · rw [if_neg c23] at H
                  have c23b0 : decide (t177 < 0) = false := decide_eq_false c23
                  clear c23
                  (first | rw [c23b0] | (simp only [i64_w, i32_w]; rw [c23b0]) | skip)
                  have H' := Aside0.mk H
                  clear H
                  go_wp2
                  go_meet
                  case rel => exact ⟨_, (decide (t177 ≥ (x3_1.length : Int))), (by first | rfl | (simp; done) | (simp [*]; done)), H', ⟨by have := HK1.out; first | omega | exact Nat.le_refl _⟩, ⟨by (with_reducible repeat (first | apply Kd.R_alloc | apply Kd.R_drewN | apply Kd.R_drew)); exact Kd.R_mono HO_3.out (fun _ hk => trivial)⟩, ⟨by repeat (first | (with_reducible first | exact HB.out | apply below_alloc | apply pw_below_drewN | apply below_drew1) | exact HB.out)⟩⟩
              case rest =>
                clear HC16
                try clear c1
                try clear c2
                try clear c2b0
                try clear c2b1
                try clear p2
                try clear c3
                try clear c4
                try clear c4b0
                try clear c4b1
                try clear c11
                try clear c13
                try clear c13b0
                try clear c13b1
                try clear c14
                try clear c23
                try clear c23b0
                try clear p2
                obtain ⟨kq, x37_15, rfl, HA, HJ15, HO_3, HB⟩ := hcut
                cases kq with
                | zero => exact absurd HA.out (by simp [laws_FnNext.j1])
                | succ kj15 =>
                  have H := HA.out
                  clear HA
                  simp only [laws_FnNext.j1] at H
                  by_cases c24 : x37_15 = true
                  · subst c24
                    have H1 : (some false) = some r := by rw [if_pos rfl] at H; exact H
                    clear H
                    have H := H1
                    clear H1
                    obtain rfl := Option.some.inj H
                    go_wp2
                    go_ret
                    exact ⟨by first | rfl | (simp [errW_none, errW_some] <;> rfl) | (simp [*, errW_none, errW_some] <;> rfl), by repeat (first | (with_reducible first | exact HB.out | apply below_alloc | apply pw_below_drewN | apply below_drew1) | exact HB.out)⟩
                  · replace c24 := Bool.eq_false_iff.mpr c24
                    subst c24
                    have H1 : (if 0 ≤ t177 then (if t177 < (x3_1.length : Int) then (laws_FnNext.l1 kj15 x3_1 x4_1 t177 0 ((rd_T73 x3_1 t177).f0) ((rd_T73 x3_1 t177).f1) ((rd_T73 x3_1 t177).f2) ((rd_T73 x3_1 t177).f3)) else (none)) else (none)) = some r := by rw [if_neg (show ¬ (false = true) by decide)] at H; exact H
                    clear H
                    have H := H1
                    clear H1
                    by_cases c25 : 0 ≤ t177
                    · rw [if_pos c25] at H
                      have c25b0 : decide (0 ≤ t177) = true := decide_eq_true c25
                      clear c25
                      by_cases c26 : t177 < (x3_1.length : Int)
                      · rw [if_pos c26] at H
                        have c26b0 : decide (t177 < (x3_1.length : Int)) = true := decide_eq_true c26
                        clear c26
                        have H' := Aside0.mk H
                        clear H
                        have p178 : 0 ≤ (t177 : Int) := of_decide_eq_true (by first | (with_reducible assumption) | assumption)
                        have q178 : t177 < (x3_1.length : Int) := of_decide_eq_true (by first | (with_reducible assumption) | assumption)
                        obtain ⟨ad178, e178, hx178_0, hx178_1, hx178_2, hx178_3⟩ := at_T73 (Kd.R_reads' HO_3.out).2.2 t177 p178 q178
                        cases e178
                        replace p178 := eq_true p178
                        replace q178 := eq_true q178
                        go_wp2_with (first | ((with_reducible refine gate_dst (N := 6) rfl ?_); (try (refine gate_guard (by rfl) ?_; dsimp only)); refine box_event ?hg (N := 6) ?hd (cs := #[.int .i64 0, .int .i64 0, .int .i64 0, .bool false]) (t := 73) ?hr ?_; (case hd => rfl); (case hg => rfl); (case hr => first | (go_simp; done) | (go_simp; rfl)); intro gb179 hg w27 hbox hb; have n0_ := Aside0.mk (Kd.R_below (Kd.R_elderB (by (with_reducible repeat (first | apply Kd.R_alloc | apply Kd.R_drewN | apply Kd.R_drew)); exact HO_3.out) gb179 (Nat.le_of_eq hg.symm)) hb); have n1_ := Aside0.mk (below_step (by repeat (first | (with_reducible first | exact HB.out | apply below_alloc | apply pw_below_drewN | apply below_drew1) | exact HB.out)) hb); have n2_ := Aside0.mk (hbox); have n3_ := Aside0.mk ((by rw [hg]; exact (below_size (by repeat (first | (with_reducible first | exact HB.out | apply below_alloc | apply pw_below_drewN | apply below_drew1) | exact HB.out))) : w.heap.size ≤ gb179)); have n4_ := Aside0.mk ((by rw [hg]; exact (below_size (by repeat (first | (with_reducible first | exact HB.out | apply below_alloc | apply pw_below_drewN | apply below_drew1) | exact HB.out))) : w.heap.size ≤ gb179)); clear HO_3; clear HB; have HO_3 := n0_; have HB := n1_; have BK179 := n2_; have GW179 := n3_; have GE179 := n4_; clear n0_ n1_ n2_ n3_ n4_; clear hb hbox hg; have hcz28_0 : w27.cell? ⟨gb179, 0, none⟩ = some (.int .i64 0) := (blk_cell BK179.out 0).trans rfl; have hcz28_1 : w27.cell? ⟨gb179, 1, none⟩ = some (.int .i64 0) := (blk_cell BK179.out 1).trans rfl; have hcz28_2 : w27.cell? ⟨gb179, 2, none⟩ = some (.int .i64 0) := (blk_cell BK179.out 2).trans rfl; have hcz28_3 : w27.cell? ⟨gb179, 3, none⟩ = some (.bool false) := (blk_cell BK179.out 3).trans rfl; have hfz28_0 := blk_frozen BK179.out 0; have hfz28_1 := blk_frozen BK179.out 1; have hfz28_2 := blk_frozen BK179.out 2; have hfz28_3 := blk_frozen BK179.out 3))
                        go_loopg [7] kj15 (fun kq v7 w' => ∃ (x7_3 : Int), v7 = .int .i64 x7_3 ∧ Aside0 (laws_FnNext.l1 kq x3_1 x4_1 t177 x7_3 ((rd_T73 x3_1 t177).f0) ((rd_T73 x3_1 t177).f1) ((rd_T73 x3_1 t177).f2) ((rd_T73 x3_1 t177).f3) = some r) ∧ Aside0 (kq ≤ kj15) ∧ Aside0 (Kd.R k73 73 w' w.heap.size (fun k_ => k_ ≠ gb179) (.slice (some ad178) x3_1.length co17) x3_1) ∧ Aside0 (w'.heap[gb179]? = some (.cells #[.int .i64 ((rd_T73 x3_1 t177).f0), .int .i64 ((rd_T73 x3_1 t177).f1), .int .i64 ((rd_T73 x3_1 t177).f2), .bool ((rd_T73 x3_1 t177).f3)] 73 (0, 0))) ∧ Aside0 (Below w.heap.size w w'))
                        case atStart => exact ⟨(0), (by first | rfl | (simp; done) | (simp [*]; done)), H', ⟨Nat.le_refl _⟩, ⟨by (with_reducible repeat (first | apply Kd.R_alloc | apply Kd.R_drewN | apply Kd.R_drew)); exact Kd.R_mono (Kd.R_far (p := ⟨gb179, 3, none⟩) (Kd.R_far (p := ⟨gb179, 2, none⟩) (Kd.R_far (p := ⟨gb179, 1, none⟩) (Kd.R_far (p := ⟨gb179, 0, none⟩) (Kd.R_mono HO_3.out (fun k_ hk => (⟨hk, hk.2⟩ : _ ∧ k_ ≠ gb179))) (fun _ hk => hk.2) (.int .i64 ((rd_T73 x3_1 t177).f0))) (fun _ hk => hk.2) (.int .i64 ((rd_T73 x3_1 t177).f1))) (fun _ hk => hk.2) (.int .i64 ((rd_T73 x3_1 t177).f2))) (fun _ hk => hk.2) (.bool ((rd_T73 x3_1 t177).f3))) (fun _ hk => hk.1.2)⟩, ⟨by (with_reducible repeat (first | refine blk_drewN ?_ _ | refine blk_drew ?_ | refine blk_alloc ?_ _)); refine blk_put (cs := #[.int .i64 ((rd_T73 x3_1 t177).f0), .int .i64 ((rd_T73 x3_1 t177).f1), .int .i64 ((rd_T73 x3_1 t177).f2), .bool false]) ?_ 3 _ rfl; (with_reducible repeat (first | refine blk_drewN ?_ _ | refine blk_drew ?_ | refine blk_alloc ?_ _)); refine blk_put (cs := #[.int .i64 ((rd_T73 x3_1 t177).f0), .int .i64 ((rd_T73 x3_1 t177).f1), .int .i64 0, .bool false]) ?_ 2 _ rfl; (with_reducible repeat (first | refine blk_drewN ?_ _ | refine blk_drew ?_ | refine blk_alloc ?_ _)); refine blk_put (cs := #[.int .i64 ((rd_T73 x3_1 t177).f0), .int .i64 0, .int .i64 0, .bool false]) ?_ 1 _ rfl; (with_reducible repeat (first | refine blk_drewN ?_ _ | refine blk_drew ?_ | refine blk_alloc ?_ _)); refine blk_put (cs := #[.int .i64 0, .int .i64 0, .int .i64 0, .bool false]) ?_ 0 _ rfl; (with_reducible repeat (first | refine blk_drewN ?_ _ | refine blk_drew ?_ | refine blk_alloc ?_ _)); exact BK179.out⟩, ⟨by repeat (first | (with_reducible first | exact HB.out | apply below_alloc | apply pw_below_drewN | apply below_drew1 | refine below_set ?_ GE179.out) | exact HB.out)⟩⟩
                        case round =>
                          clear H'
                          try clear c1
                          try clear p1
                          try clear q1
                          try clear hx1
                          try clear c2
                          try clear c2b0
                          try clear c2b1
                          try clear p2
                          try clear c3
                          try clear c4
                          try clear c4b0
                          try clear c4b1
                          try clear c11
                          try clear c13
                          try clear c13b0
                          try clear c13b1
                          try clear c14
                          try clear p17
                          try clear q17
                          try clear hx17
                          try clear c23
                          try clear c23b0
                          try clear c24
                          try clear c25
                          try clear c25b0
                          try clear c26
                          try clear c26b0
                          try clear hcz28_0
                          try clear hcz28_1
                          try clear hcz28_2
                          try clear hcz28_3
                          try clear hfz28_0
                          try clear hfz28_1
                          try clear hfz28_2
                          try clear hfz28_3
                          try clear hx178_0
                          try clear hx178_1
                          try clear hx178_2
                          try clear hx178_3
                          try clear p178
                          try clear p2
                          try clear q178
                          obtain ⟨x7_3, rfl, HA, HK3, HO_3, BK179, HB⟩ := hrel
                          cases gk with
                          | zero => exact absurd HA.out (by simp [laws_FnNext.l1])
                          | succ k3 =>
                            have H := HA.out
                            clear HA
                            simp only [laws_FnNext.l1] at H
                            by_cases c29 : x7_3 < (x3_1.length : Int)
                            · rw [if_pos c29] at H
                              have c29b0 : decide (x7_3 < (x3_1.length : Int)) = true := decide_eq_true c29
                              clear c29
                              by_cases c30 : 0 ≤ x7_3
                              · rw [if_pos c30] at H
                                have c30b0 : decide (0 ≤ x7_3) = true := decide_eq_true c30
                                clear c30
                                by_cases c31 : ((rd_T73 x3_1 x7_3).f1) < ((rd_T73 x3_1 t177).f1)
                                · rw [if_pos c31] at H
                                  have c31b0 : decide (((rd_T73 x3_1 x7_3).f1) < ((rd_T73 x3_1 t177).f1)) = true := decide_eq_true c31
                                  clear c31
                                  obtain rfl := Option.some.inj H
                                  have p180 : 0 ≤ (x7_3 : Int) := of_decide_eq_true (by first | (with_reducible assumption) | assumption)
                                  have q180 : x7_3 < (x3_1.length : Int) := of_decide_eq_true (by first | (with_reducible assumption) | assumption)
                                  obtain ⟨ad180, e180, hx180_0, hx180_1, hx180_2, hx180_3⟩ := at_T73 (Kd.R_reads' HO_3.out).2.2 x7_3 p180 q180
                                  obtain rfl : ad178 = ad180 := (by injection e180)
                                  replace p180 := eq_true p180
                                  replace q180 := eq_true q180
                                  go_wp2_with (first | ((with_reducible refine gate_dst (N := 8) rfl ?_); (try (refine gate_guard (by rfl) ?_; dsimp only)); refine box_event ?hg (N := 8) ?hd (cs := #[.int .i64 0, .int .i64 0, .int .i64 0, .bool false]) (t := 73) ?hr ?_; (case hd => rfl); (case hg => rfl); (case hr => first | (go_simp; done) | (go_simp; rfl)); intro gb181 hg w32 hbox hb; have n0_ := Aside0.mk (Kd.R_below (Kd.R_elderB (by (with_reducible repeat (first | apply Kd.R_alloc | apply Kd.R_drewN | apply Kd.R_drew)); exact HO_3.out) gb181 (Nat.le_of_eq hg.symm)) hb); have n1_ := Aside0.mk (blk_below (g := gb179) (o := .cells #[.int .i64 ((rd_T73 x3_1 t177).f0), .int .i64 ((rd_T73 x3_1 t177).f1), .int .i64 ((rd_T73 x3_1 t177).f2), .bool ((rd_T73 x3_1 t177).f3)] 73 (0, 0)) (by (with_reducible repeat (first | refine blk_drewN ?_ _ | refine blk_drew ?_ | refine blk_alloc ?_ _)); exact BK179.out) hb); have n2_ := Aside0.mk (below_step (by repeat (first | (with_reducible first | exact HB.out | apply below_alloc | apply pw_below_drewN | apply below_drew1 | refine below_set ?_ GE179.out) | exact HB.out)) hb); have n3_ := Aside0.mk (hbox); have n4_ := Aside0.mk ((by rw [hg]; exact (below_size (by repeat (first | (with_reducible first | exact HB.out | apply below_alloc | apply pw_below_drewN | apply below_drew1 | refine below_set ?_ GE179.out) | exact HB.out))) : w.heap.size ≤ gb181)); have n5_ := Aside0.mk ((by rw [hg]; exact (below_size (by repeat (first | (with_reducible first | exact HB.out | apply below_alloc | apply pw_below_drewN | apply below_drew1 | refine below_set ?_ GE179.out) | exact HB.out))) : w.heap.size ≤ gb181)); have n6_ := Aside0.mk ((by rw [hg]; exact Nat.ne_of_lt (blk_lt (g := gb179) (o := .cells #[.int .i64 ((rd_T73 x3_1 t177).f0), .int .i64 ((rd_T73 x3_1 t177).f1), .int .i64 ((rd_T73 x3_1 t177).f2), .bool ((rd_T73 x3_1 t177).f3)] 73 (0, 0)) (by (with_reducible repeat (first | refine blk_drewN ?_ _ | refine blk_drew ?_ | refine blk_alloc ?_ _)); exact BK179.out)) : gb179 ≠ gb181)); have n7_ := Aside0.mk ((by rw [hg]; exact Nat.ne_of_gt (blk_lt (g := gb179) (o := .cells #[.int .i64 ((rd_T73 x3_1 t177).f0), .int .i64 ((rd_T73 x3_1 t177).f1), .int .i64 ((rd_T73 x3_1 t177).f2), .bool ((rd_T73 x3_1 t177).f3)] 73 (0, 0)) (by (with_reducible repeat (first | refine blk_drewN ?_ _ | refine blk_drew ?_ | refine blk_alloc ?_ _)); exact BK179.out)) : gb181 ≠ gb179)); clear HO_3; clear BK179; clear HB; have HO_3 := n0_; have BK179 := n1_; have HB := n2_; have BK181 := n3_; have GW181 := n4_; have GE181 := n5_; have NB179_181 := n6_; have NB181_179 := n7_; clear n0_ n1_ n2_ n3_ n4_ n5_ n6_ n7_; clear hb hbox hg; have hnb33 := NB181_179.out; have hnc33 := NB179_181.out; have hcz34_0 : w32.cell? ⟨gb181, 0, none⟩ = some (.int .i64 0) := (blk_cell BK181.out 0).trans rfl; have hcz34_1 : w32.cell? ⟨gb181, 1, none⟩ = some (.int .i64 0) := (blk_cell BK181.out 1).trans rfl; have hcz34_2 : w32.cell? ⟨gb181, 2, none⟩ = some (.int .i64 0) := (blk_cell BK181.out 2).trans rfl; have hcz34_3 : w32.cell? ⟨gb181, 3, none⟩ = some (.bool false) := (blk_cell BK181.out 3).trans rfl; have hfz34_0 := blk_frozen BK181.out 0; have hfz34_1 := blk_frozen BK181.out 1; have hfz34_2 := blk_frozen BK181.out 2; have hfz34_3 := blk_frozen BK181.out 3; have hcz35_0 : w32.cell? ⟨gb179, 0, none⟩ = some (.int .i64 ((rd_T73 x3_1 t177).f0)) := (blk_cell BK179.out 0).trans rfl; have hcz35_1 : w32.cell? ⟨gb179, 1, none⟩ = some (.int .i64 ((rd_T73 x3_1 t177).f1)) := (blk_cell BK179.out 1).trans rfl; have hcz35_2 : w32.cell? ⟨gb179, 2, none⟩ = some (.int .i64 ((rd_T73 x3_1 t177).f2)) := (blk_cell BK179.out 2).trans rfl; have hcz35_3 : w32.cell? ⟨gb179, 3, none⟩ = some (.bool ((rd_T73 x3_1 t177).f3)) := (blk_cell BK179.out 3).trans rfl; have hfz35_0 := blk_frozen BK179.out 0; have hfz35_1 := blk_frozen BK179.out 1; have hfz35_2 := blk_frozen BK179.out 2; have hfz35_3 := blk_frozen BK179.out 3))
                                  go_ret
                                  exact ⟨by first | rfl | (simp [errW_none, errW_some] <;> rfl) | (simp [*, errW_none, errW_some] <;> rfl), by repeat (first | (with_reducible first | exact HB.out | apply below_alloc | apply pw_below_drewN | apply below_drew1 | refine below_set ?_ GE179.out | refine below_set ?_ GE181.out) | exact HB.out)⟩
                                · rw [if_neg c31] at H
                                  have c31b0 : decide (((rd_T73 x3_1 x7_3).f1) < ((rd_T73 x3_1 t177).f1)) = false := decide_eq_false c31
                                  clear c31
                                  by_cases c36 : ((rd_T73 x3_1 x7_3).f1) = ((rd_T73 x3_1 t177).f1)
                                  · rw [if_pos c36] at H
                                    have c36b0 : (((rd_T73 x3_1 x7_3).f1) == ((rd_T73 x3_1 t177).f1)) = true := beq_iff_eq.mpr c36
                                    have c36b1 : (((rd_T73 x3_1 x7_3).f1) != ((rd_T73 x3_1 t177).f1)) = false := bne_eq_false_iff_eq.mpr c36
                                    clear c36
                                    by_cases c37 : ((rd_T73 x3_1 t177).f3) = true
                                    · rw [if_pos c37] at H
                                      have c37b0 : ((rd_T73 x3_1 t177).f3) = true := c37
                                      clear c37
                                      obtain ⟨bq38, hbq38⟩ : ∃ b_ : Bool, b_ = ((rd_T73 x3_1 x7_3).f3) := ⟨_, rfl⟩
                                      replace H : (if (bq38 = true) then (if bq38 = true then (if ((rd_T73 x3_1 x7_3).f2) < ((rd_T73 x3_1 t177).f2) then (some false) else (laws_FnNext.l1 k3 x3_1 x4_1 t177 (wrap64 (x7_3 + 1)) ((rd_T73 x3_1 t177).f0) ((rd_T73 x3_1 t177).f1) ((rd_T73 x3_1 t177).f2) ((rd_T73 x3_1 t177).f3))) else (laws_FnNext.l1 k3 x3_1 x4_1 t177 (wrap64 (x7_3 + 1)) ((rd_T73 x3_1 t177).f0) ((rd_T73 x3_1 t177).f1) ((rd_T73 x3_1 t177).f2) ((rd_T73 x3_1 t177).f3))) else (some false)) = some r := by rw [← hbq38] at H; exact H
                                      have Nbq38 := Aside0.mk hbq38
                                      clear hbq38
                                      by_cases c39 : (bq38 = true)
                                      · subst c39
                                        have H1 : (if true = true then (if ((rd_T73 x3_1 x7_3).f2) < ((rd_T73 x3_1 t177).f2) then (some false) else (laws_FnNext.l1 k3 x3_1 x4_1 t177 (wrap64 (x7_3 + 1)) ((rd_T73 x3_1 t177).f0) ((rd_T73 x3_1 t177).f1) ((rd_T73 x3_1 t177).f2) ((rd_T73 x3_1 t177).f3))) else (laws_FnNext.l1 k3 x3_1 x4_1 t177 (wrap64 (x7_3 + 1)) ((rd_T73 x3_1 t177).f0) ((rd_T73 x3_1 t177).f1) ((rd_T73 x3_1 t177).f2) ((rd_T73 x3_1 t177).f3))) = some r := by rw [if_pos rfl] at H; exact H
                                        clear H
                                        have H := H1
                                        clear H1
                                        by_cases c40 : true = true
                                        · clear c40
                                          have H1 : (if ((rd_T73 x3_1 x7_3).f2) < ((rd_T73 x3_1 t177).f2) then (some false) else (laws_FnNext.l1 k3 x3_1 x4_1 t177 (wrap64 (x7_3 + 1)) ((rd_T73 x3_1 t177).f0) ((rd_T73 x3_1 t177).f1) ((rd_T73 x3_1 t177).f2) ((rd_T73 x3_1 t177).f3))) = some r := by rw [if_pos rfl] at H; exact H
                                          clear H
                                          have H := H1
                                          clear H1
                                          by_cases c41 : ((rd_T73 x3_1 x7_3).f2) < ((rd_T73 x3_1 t177).f2)
                                          · rw [if_pos c41] at H
                                            have c41b0 : decide (((rd_T73 x3_1 x7_3).f2) < ((rd_T73 x3_1 t177).f2)) = true := decide_eq_true c41
                                            clear c41
                                            obtain rfl := Option.some.inj H
                                            have p180 : 0 ≤ (x7_3 : Int) := of_decide_eq_true (by first | (with_reducible assumption) | assumption)
                                            have q180 : x7_3 < (x3_1.length : Int) := of_decide_eq_true (by first | (with_reducible assumption) | assumption)
                                            obtain ⟨ad180, e180, hx180_0, hx180_1, hx180_2, hx180_3⟩ := at_T73 (Kd.R_reads' HO_3.out).2.2 x7_3 p180 q180
                                            (try rw [← Nbq38.out] at hx180_3)
                                            obtain rfl : ad178 = ad180 := (by injection e180)
                                            replace p180 := eq_true p180
                                            replace q180 := eq_true q180
                                            go_wp2_with (first | ((with_reducible refine gate_dst (N := 8) rfl ?_); (try (refine gate_guard (by rfl) ?_; dsimp only)); refine box_event ?hg (N := 8) ?hd (cs := #[.int .i64 0, .int .i64 0, .int .i64 0, .bool false]) (t := 73) ?hr ?_; (case hd => rfl); (case hg => rfl); (case hr => first | (go_simp; done) | (go_simp; rfl)); intro gb181 hg w42 hbox hb; have n0_ := Aside0.mk (Kd.R_below (Kd.R_elderB (by (with_reducible repeat (first | apply Kd.R_alloc | apply Kd.R_drewN | apply Kd.R_drew)); exact HO_3.out) gb181 (Nat.le_of_eq hg.symm)) hb); have n1_ := Aside0.mk (blk_below (g := gb179) (o := .cells #[.int .i64 ((rd_T73 x3_1 t177).f0), .int .i64 ((rd_T73 x3_1 t177).f1), .int .i64 ((rd_T73 x3_1 t177).f2), .bool ((rd_T73 x3_1 t177).f3)] 73 (0, 0)) (by (with_reducible repeat (first | refine blk_drewN ?_ _ | refine blk_drew ?_ | refine blk_alloc ?_ _)); exact BK179.out) hb); have n2_ := Aside0.mk (below_step (by repeat (first | (with_reducible first | exact HB.out | apply below_alloc | apply pw_below_drewN | apply below_drew1 | refine below_set ?_ GE179.out) | exact HB.out)) hb); have n3_ := Aside0.mk (hbox); have n4_ := Aside0.mk ((by rw [hg]; exact (below_size (by repeat (first | (with_reducible first | exact HB.out | apply below_alloc | apply pw_below_drewN | apply below_drew1 | refine below_set ?_ GE179.out) | exact HB.out))) : w.heap.size ≤ gb181)); have n5_ := Aside0.mk ((by rw [hg]; exact (below_size (by repeat (first | (with_reducible first | exact HB.out | apply below_alloc | apply pw_below_drewN | apply below_drew1 | refine below_set ?_ GE179.out) | exact HB.out))) : w.heap.size ≤ gb181)); have n6_ := Aside0.mk ((by rw [hg]; exact Nat.ne_of_lt (blk_lt (g := gb179) (o := .cells #[.int .i64 ((rd_T73 x3_1 t177).f0), .int .i64 ((rd_T73 x3_1 t177).f1), .int .i64 ((rd_T73 x3_1 t177).f2), .bool ((rd_T73 x3_1 t177).f3)] 73 (0, 0)) (by (with_reducible repeat (first | refine blk_drewN ?_ _ | refine blk_drew ?_ | refine blk_alloc ?_ _)); exact BK179.out)) : gb179 ≠ gb181)); have n7_ := Aside0.mk ((by rw [hg]; exact Nat.ne_of_gt (blk_lt (g := gb179) (o := .cells #[.int .i64 ((rd_T73 x3_1 t177).f0), .int .i64 ((rd_T73 x3_1 t177).f1), .int .i64 ((rd_T73 x3_1 t177).f2), .bool ((rd_T73 x3_1 t177).f3)] 73 (0, 0)) (by (with_reducible repeat (first | refine blk_drewN ?_ _ | refine blk_drew ?_ | refine blk_alloc ?_ _)); exact BK179.out)) : gb181 ≠ gb179)); clear HO_3; clear BK179; clear HB; have HO_3 := n0_; have BK179 := n1_; have HB := n2_; have BK181 := n3_; have GW181 := n4_; have GE181 := n5_; have NB179_181 := n6_; have NB181_179 := n7_; clear n0_ n1_ n2_ n3_ n4_ n5_ n6_ n7_; clear hb hbox hg; have hnb43 := NB181_179.out; have hnc43 := NB179_181.out; have hcz44_0 : w42.cell? ⟨gb181, 0, none⟩ = some (.int .i64 0) := (blk_cell BK181.out 0).trans rfl; have hcz44_1 : w42.cell? ⟨gb181, 1, none⟩ = some (.int .i64 0) := (blk_cell BK181.out 1).trans rfl; have hcz44_2 : w42.cell? ⟨gb181, 2, none⟩ = some (.int .i64 0) := (blk_cell BK181.out 2).trans rfl; have hcz44_3 : w42.cell? ⟨gb181, 3, none⟩ = some (.bool false) := (blk_cell BK181.out 3).trans rfl; have hfz44_0 := blk_frozen BK181.out 0; have hfz44_1 := blk_frozen BK181.out 1; have hfz44_2 := blk_frozen BK181.out 2; have hfz44_3 := blk_frozen BK181.out 3; have hcz45_0 : w42.cell? ⟨gb179, 0, none⟩ = some (.int .i64 ((rd_T73 x3_1 t177).f0)) := (blk_cell BK179.out 0).trans rfl; have hcz45_1 : w42.cell? ⟨gb179, 1, none⟩ = some (.int .i64 ((rd_T73 x3_1 t177).f1)) := (blk_cell BK179.out 1).trans rfl; have hcz45_2 : w42.cell? ⟨gb179, 2, none⟩ = some (.int .i64 ((rd_T73 x3_1 t177).f2)) := (blk_cell BK179.out 2).trans rfl; have hcz45_3 : w42.cell? ⟨gb179, 3, none⟩ = some (.bool ((rd_T73 x3_1 t177).f3)) := (blk_cell BK179.out 3).trans rfl; have hfz45_0 := blk_frozen BK179.out 0; have hfz45_1 := blk_frozen BK179.out 1; have hfz45_2 := blk_frozen BK179.out 2; have hfz45_3 := blk_frozen BK179.out 3))
                                            go_ret
                                            exact ⟨by first | rfl | (simp [errW_none, errW_some] <;> rfl) | (simp [*, errW_none, errW_some] <;> rfl), by repeat (first | (with_reducible first | exact HB.out | apply below_alloc | apply pw_below_drewN | apply below_drew1 | refine below_set ?_ GE179.out | refine below_set ?_ GE181.out) | exact HB.out)⟩
                                          · rw [if_neg c41] at H
                                            have c41b0 : decide (((rd_T73 x3_1 x7_3).f2) < ((rd_T73 x3_1 t177).f2)) = false := decide_eq_false c41
                                            clear c41
                                            have H' := Aside0.mk H
                                            clear H
                                            have p180 : 0 ≤ (x7_3 : Int) := of_decide_eq_true (by first | (with_reducible assumption) | assumption)
                                            have q180 : x7_3 < (x3_1.length : Int) := of_decide_eq_true (by first | (with_reducible assumption) | assumption)
                                            obtain ⟨ad180, e180, hx180_0, hx180_1, hx180_2, hx180_3⟩ := at_T73 (Kd.R_reads' HO_3.out).2.2 x7_3 p180 q180
                                            (try rw [← Nbq38.out] at hx180_3)
                                            obtain rfl : ad178 = ad180 := (by injection e180)
                                            replace p180 := eq_true p180
                                            replace q180 := eq_true q180
                                            go_wp2_with (first | ((with_reducible refine gate_dst (N := 8) rfl ?_); (try (refine gate_guard (by rfl) ?_; dsimp only)); refine box_event ?hg (N := 8) ?hd (cs := #[.int .i64 0, .int .i64 0, .int .i64 0, .bool false]) (t := 73) ?hr ?_; (case hd => rfl); (case hg => rfl); (case hr => first | (go_simp; done) | (go_simp; rfl)); intro gb181 hg w46 hbox hb; have n0_ := Aside0.mk (Kd.R_below (Kd.R_elderB (by (with_reducible repeat (first | apply Kd.R_alloc | apply Kd.R_drewN | apply Kd.R_drew)); exact HO_3.out) gb181 (Nat.le_of_eq hg.symm)) hb); have n1_ := Aside0.mk (blk_below (g := gb179) (o := .cells #[.int .i64 ((rd_T73 x3_1 t177).f0), .int .i64 ((rd_T73 x3_1 t177).f1), .int .i64 ((rd_T73 x3_1 t177).f2), .bool ((rd_T73 x3_1 t177).f3)] 73 (0, 0)) (by (with_reducible repeat (first | refine blk_drewN ?_ _ | refine blk_drew ?_ | refine blk_alloc ?_ _)); exact BK179.out) hb); have n2_ := Aside0.mk (below_step (by repeat (first | (with_reducible first | exact HB.out | apply below_alloc | apply pw_below_drewN | apply below_drew1 | refine below_set ?_ GE179.out) | exact HB.out)) hb); have n3_ := Aside0.mk (hbox); have n4_ := Aside0.mk ((by rw [hg]; exact (below_size (by repeat (first | (with_reducible first | exact HB.out | apply below_alloc | apply pw_below_drewN | apply below_drew1 | refine below_set ?_ GE179.out) | exact HB.out))) : w.heap.size ≤ gb181)); have n5_ := Aside0.mk ((by rw [hg]; exact (below_size (by repeat (first | (with_reducible first | exact HB.out | apply below_alloc | apply pw_below_drewN | apply below_drew1 | refine below_set ?_ GE179.out) | exact HB.out))) : w.heap.size ≤ gb181)); have n6_ := Aside0.mk ((by rw [hg]; exact Nat.ne_of_lt (blk_lt (g := gb179) (o := .cells #[.int .i64 ((rd_T73 x3_1 t177).f0), .int .i64 ((rd_T73 x3_1 t177).f1), .int .i64 ((rd_T73 x3_1 t177).f2), .bool ((rd_T73 x3_1 t177).f3)] 73 (0, 0)) (by (with_reducible repeat (first | refine blk_drewN ?_ _ | refine blk_drew ?_ | refine blk_alloc ?_ _)); exact BK179.out)) : gb179 ≠ gb181)); have n7_ := Aside0.mk ((by rw [hg]; exact Nat.ne_of_gt (blk_lt (g := gb179) (o := .cells #[.int .i64 ((rd_T73 x3_1 t177).f0), .int .i64 ((rd_T73 x3_1 t177).f1), .int .i64 ((rd_T73 x3_1 t177).f2), .bool ((rd_T73 x3_1 t177).f3)] 73 (0, 0)) (by (with_reducible repeat (first | refine blk_drewN ?_ _ | refine blk_drew ?_ | refine blk_alloc ?_ _)); exact BK179.out)) : gb181 ≠ gb179)); clear HO_3; clear BK179; clear HB; have HO_3 := n0_; have BK179 := n1_; have HB := n2_; have BK181 := n3_; have GW181 := n4_; have GE181 := n5_; have NB179_181 := n6_; have NB181_179 := n7_; clear n0_ n1_ n2_ n3_ n4_ n5_ n6_ n7_; clear hb hbox hg; have hnb47 := NB181_179.out; have hnc47 := NB179_181.out; have hcz48_0 : w46.cell? ⟨gb181, 0, none⟩ = some (.int .i64 0) := (blk_cell BK181.out 0).trans rfl; have hcz48_1 : w46.cell? ⟨gb181, 1, none⟩ = some (.int .i64 0) := (blk_cell BK181.out 1).trans rfl; have hcz48_2 : w46.cell? ⟨gb181, 2, none⟩ = some (.int .i64 0) := (blk_cell BK181.out 2).trans rfl; have hcz48_3 : w46.cell? ⟨gb181, 3, none⟩ = some (.bool false) := (blk_cell BK181.out 3).trans rfl; have hfz48_0 := blk_frozen BK181.out 0; have hfz48_1 := blk_frozen BK181.out 1; have hfz48_2 := blk_frozen BK181.out 2; have hfz48_3 := blk_frozen BK181.out 3; have hcz49_0 : w46.cell? ⟨gb179, 0, none⟩ = some (.int .i64 ((rd_T73 x3_1 t177).f0)) := (blk_cell BK179.out 0).trans rfl; have hcz49_1 : w46.cell? ⟨gb179, 1, none⟩ = some (.int .i64 ((rd_T73 x3_1 t177).f1)) := (blk_cell BK179.out 1).trans rfl; have hcz49_2 : w46.cell? ⟨gb179, 2, none⟩ = some (.int .i64 ((rd_T73 x3_1 t177).f2)) := (blk_cell BK179.out 2).trans rfl; have hcz49_3 : w46.cell? ⟨gb179, 3, none⟩ = some (.bool ((rd_T73 x3_1 t177).f3)) := (blk_cell BK179.out 3).trans rfl; have hfz49_0 := blk_frozen BK179.out 0; have hfz49_1 := blk_frozen BK179.out 1; have hfz49_2 := blk_frozen BK179.out 2; have hfz49_3 := blk_frozen BK179.out 3))
                                            (try rw [show (#[.int .i64 (rd_T73 x3_1 t177).f0, .int .i64 (rd_T73 x3_1 t177).f1, .int .i64 (rd_T73 x3_1 t177).f2, .bool true] : Array Value) = #[.int .i64 (rd_T73 x3_1 t177).f0, .int .i64 (rd_T73 x3_1 t177).f1, .int .i64 (rd_T73 x3_1 t177).f2, .bool (rd_T73 x3_1 t177).f3] from by rw [(by assumption : (rd_T73 x3_1 t177).f3 = true)]])
                                            (try rw [show (#[.int .i64 (rd_T73 x3_1 t177).f0, .int .i64 (rd_T73 x3_1 t177).f1, .int .i64 (rd_T73 x3_1 t177).f2, .bool false] : Array Value) = #[.int .i64 (rd_T73 x3_1 t177).f0, .int .i64 (rd_T73 x3_1 t177).f1, .int .i64 (rd_T73 x3_1 t177).f2, .bool (rd_T73 x3_1 t177).f3] from by rw [(by assumption : (rd_T73 x3_1 t177).f3 = false)]])
                                            (try rw [show (#[.int .i64 (rd_T73 x3_1 t177).f0, .int .i64 (rd_T73 x3_1 t177).f1, .int .i64 (rd_T73 x3_1 t177).f2, .bool true] : Array Value) = #[.int .i64 (rd_T73 x3_1 t177).f0, .int .i64 (rd_T73 x3_1 t177).f1, .int .i64 (rd_T73 x3_1 t177).f2, .bool (rd_T73 x3_1 t177).f3] from by rw [(by assumption : (rd_T73 x3_1 t177).f3 = true)]])
                                            (try rw [show (#[.int .i64 (rd_T73 x3_1 t177).f0, .int .i64 (rd_T73 x3_1 t177).f1, .int .i64 (rd_T73 x3_1 t177).f2, .bool false] : Array Value) = #[.int .i64 (rd_T73 x3_1 t177).f0, .int .i64 (rd_T73 x3_1 t177).f1, .int .i64 (rd_T73 x3_1 t177).f2, .bool (rd_T73 x3_1 t177).f3] from by rw [(by assumption : (rd_T73 x3_1 t177).f3 = false)]])
                                            go_roundg k3
                                            case measure => have := HK1.out; have := HJ15.out; have := HK3.out; omega
                                            case rel => exact ⟨(wrap64 (x7_3 + 1)), (by first | rfl | (simp; done) | (simp [*]; done)), H', ⟨by have := HK1.out; have := HJ15.out; have := HK3.out; omega⟩, ⟨by (with_reducible repeat (first | apply Kd.R_alloc | apply Kd.R_drewN | apply Kd.R_drew)); exact Kd.R_mono (Kd.R_far (p := ⟨gb181, 3, none⟩) (Kd.R_far (p := ⟨gb181, 2, none⟩) (Kd.R_far (p := ⟨gb181, 1, none⟩) (Kd.R_far (p := ⟨gb181, 0, none⟩) (Kd.R_mono HO_3.out (fun k_ hk => (⟨hk, hk.2⟩ : _ ∧ k_ ≠ gb181))) (fun _ hk => hk.2) (.int .i64 ((rd_T73 x3_1 x7_3).f0))) (fun _ hk => hk.2) (.int .i64 ((rd_T73 x3_1 x7_3).f1))) (fun _ hk => hk.2) (.int .i64 ((rd_T73 x3_1 x7_3).f2))) (fun _ hk => hk.2) (.bool true)) (fun _ hk => hk.1.1)⟩, ⟨by (with_reducible repeat (first | refine blk_drewN ?_ _ | refine blk_drew ?_ | refine blk_alloc ?_ _)); refine blk_far ?_ NB179_181.out _; (with_reducible repeat (first | refine blk_drewN ?_ _ | refine blk_drew ?_ | refine blk_alloc ?_ _)); refine blk_far ?_ NB179_181.out _; (with_reducible repeat (first | refine blk_drewN ?_ _ | refine blk_drew ?_ | refine blk_alloc ?_ _)); refine blk_far ?_ NB179_181.out _; (with_reducible repeat (first | refine blk_drewN ?_ _ | refine blk_drew ?_ | refine blk_alloc ?_ _)); refine blk_far ?_ NB179_181.out _; (with_reducible repeat (first | refine blk_drewN ?_ _ | refine blk_drew ?_ | refine blk_alloc ?_ _)); exact BK179.out⟩, ⟨by repeat (first | (with_reducible first | exact HB.out | apply below_alloc | apply pw_below_drewN | apply below_drew1 | refine below_set ?_ GE179.out | refine below_set ?_ GE181.out) | exact HB.out)⟩⟩
                                        · exact absurd rfl c40
                                      · replace c39 := Bool.eq_false_iff.mpr c39
                                        subst c39
                                        have H1 : (some false) = some r := by rw [if_neg (show ¬ (false = true) by decide)] at H; exact H
                                        clear H
                                        have H := H1
                                        clear H1
                                        obtain rfl := Option.some.inj H
                                        have p180 : 0 ≤ (x7_3 : Int) := of_decide_eq_true (by first | (with_reducible assumption) | assumption)
                                        have q180 : x7_3 < (x3_1.length : Int) := of_decide_eq_true (by first | (with_reducible assumption) | assumption)
                                        obtain ⟨ad180, e180, hx180_0, hx180_1, hx180_2, hx180_3⟩ := at_T73 (Kd.R_reads' HO_3.out).2.2 x7_3 p180 q180
                                        (try rw [← Nbq38.out] at hx180_3)
                                        obtain rfl : ad178 = ad180 := (by injection e180)
                                        replace p180 := eq_true p180
                                        replace q180 := eq_true q180
                                        go_wp2_with (first | ((with_reducible refine gate_dst (N := 8) rfl ?_); (try (refine gate_guard (by rfl) ?_; dsimp only)); refine box_event ?hg (N := 8) ?hd (cs := #[.int .i64 0, .int .i64 0, .int .i64 0, .bool false]) (t := 73) ?hr ?_; (case hd => rfl); (case hg => rfl); (case hr => first | (go_simp; done) | (go_simp; rfl)); intro gb181 hg w54 hbox hb; have n0_ := Aside0.mk (Kd.R_below (Kd.R_elderB (by (with_reducible repeat (first | apply Kd.R_alloc | apply Kd.R_drewN | apply Kd.R_drew)); exact HO_3.out) gb181 (Nat.le_of_eq hg.symm)) hb); have n1_ := Aside0.mk (blk_below (g := gb179) (o := .cells #[.int .i64 ((rd_T73 x3_1 t177).f0), .int .i64 ((rd_T73 x3_1 t177).f1), .int .i64 ((rd_T73 x3_1 t177).f2), .bool ((rd_T73 x3_1 t177).f3)] 73 (0, 0)) (by (with_reducible repeat (first | refine blk_drewN ?_ _ | refine blk_drew ?_ | refine blk_alloc ?_ _)); exact BK179.out) hb); have n2_ := Aside0.mk (below_step (by repeat (first | (with_reducible first | exact HB.out | apply below_alloc | apply pw_below_drewN | apply below_drew1 | refine below_set ?_ GE179.out) | exact HB.out)) hb); have n3_ := Aside0.mk (hbox); have n4_ := Aside0.mk ((by rw [hg]; exact (below_size (by repeat (first | (with_reducible first | exact HB.out | apply below_alloc | apply pw_below_drewN | apply below_drew1 | refine below_set ?_ GE179.out) | exact HB.out))) : w.heap.size ≤ gb181)); have n5_ := Aside0.mk ((by rw [hg]; exact (below_size (by repeat (first | (with_reducible first | exact HB.out | apply below_alloc | apply pw_below_drewN | apply below_drew1 | refine below_set ?_ GE179.out) | exact HB.out))) : w.heap.size ≤ gb181)); have n6_ := Aside0.mk ((by rw [hg]; exact Nat.ne_of_lt (blk_lt (g := gb179) (o := .cells #[.int .i64 ((rd_T73 x3_1 t177).f0), .int .i64 ((rd_T73 x3_1 t177).f1), .int .i64 ((rd_T73 x3_1 t177).f2), .bool ((rd_T73 x3_1 t177).f3)] 73 (0, 0)) (by (with_reducible repeat (first | refine blk_drewN ?_ _ | refine blk_drew ?_ | refine blk_alloc ?_ _)); exact BK179.out)) : gb179 ≠ gb181)); have n7_ := Aside0.mk ((by rw [hg]; exact Nat.ne_of_gt (blk_lt (g := gb179) (o := .cells #[.int .i64 ((rd_T73 x3_1 t177).f0), .int .i64 ((rd_T73 x3_1 t177).f1), .int .i64 ((rd_T73 x3_1 t177).f2), .bool ((rd_T73 x3_1 t177).f3)] 73 (0, 0)) (by (with_reducible repeat (first | refine blk_drewN ?_ _ | refine blk_drew ?_ | refine blk_alloc ?_ _)); exact BK179.out)) : gb181 ≠ gb179)); clear HO_3; clear BK179; clear HB; have HO_3 := n0_; have BK179 := n1_; have HB := n2_; have BK181 := n3_; have GW181 := n4_; have GE181 := n5_; have NB179_181 := n6_; have NB181_179 := n7_; clear n0_ n1_ n2_ n3_ n4_ n5_ n6_ n7_; clear hb hbox hg; have hnb55 := NB181_179.out; have hnc55 := NB179_181.out; have hcz56_0 : w54.cell? ⟨gb181, 0, none⟩ = some (.int .i64 0) := (blk_cell BK181.out 0).trans rfl; have hcz56_1 : w54.cell? ⟨gb181, 1, none⟩ = some (.int .i64 0) := (blk_cell BK181.out 1).trans rfl; have hcz56_2 : w54.cell? ⟨gb181, 2, none⟩ = some (.int .i64 0) := (blk_cell BK181.out 2).trans rfl; have hcz56_3 : w54.cell? ⟨gb181, 3, none⟩ = some (.bool false) := (blk_cell BK181.out 3).trans rfl; have hfz56_0 := blk_frozen BK181.out 0; have hfz56_1 := blk_frozen BK181.out 1; have hfz56_2 := blk_frozen BK181.out 2; have hfz56_3 := blk_frozen BK181.out 3; have hcz57_0 : w54.cell? ⟨gb179, 0, none⟩ = some (.int .i64 ((rd_T73 x3_1 t177).f0)) := (blk_cell BK179.out 0).trans rfl; have hcz57_1 : w54.cell? ⟨gb179, 1, none⟩ = some (.int .i64 ((rd_T73 x3_1 t177).f1)) := (blk_cell BK179.out 1).trans rfl; have hcz57_2 : w54.cell? ⟨gb179, 2, none⟩ = some (.int .i64 ((rd_T73 x3_1 t177).f2)) := (blk_cell BK179.out 2).trans rfl; have hcz57_3 : w54.cell? ⟨gb179, 3, none⟩ = some (.bool ((rd_T73 x3_1 t177).f3)) := (blk_cell BK179.out 3).trans rfl; have hfz57_0 := blk_frozen BK179.out 0; have hfz57_1 := blk_frozen BK179.out 1; have hfz57_2 := blk_frozen BK179.out 2; have hfz57_3 := blk_frozen BK179.out 3))
                                        go_ret
                                        exact ⟨by first | rfl | (simp [errW_none, errW_some] <;> rfl) | (simp [*, errW_none, errW_some] <;> rfl), by repeat (first | (with_reducible first | exact HB.out | apply below_alloc | apply pw_below_drewN | apply below_drew1 | refine below_set ?_ GE179.out | refine below_set ?_ GE181.out) | exact HB.out)⟩
                                    · rw [if_neg c37] at H
                                      have c37b0 : ((rd_T73 x3_1 t177).f3) = false := by simpa using c37
                                      clear c37
                                      obtain ⟨bq58, hbq58⟩ : ∃ b_ : Bool, b_ = ((rd_T73 x3_1 x7_3).f3) := ⟨_, rfl⟩
                                      replace H : (if (bq58 = true) then (laws_FnNext.l1 k3 x3_1 x4_1 t177 (wrap64 (x7_3 + 1)) ((rd_T73 x3_1 t177).f0) ((rd_T73 x3_1 t177).f1) ((rd_T73 x3_1 t177).f2) ((rd_T73 x3_1 t177).f3)) else (if ((rd_T73 x3_1 x7_3).f0) < ((rd_T73 x3_1 t177).f0) then (some false) else (laws_FnNext.l1 k3 x3_1 x4_1 t177 (wrap64 (x7_3 + 1)) ((rd_T73 x3_1 t177).f0) ((rd_T73 x3_1 t177).f1) ((rd_T73 x3_1 t177).f2) ((rd_T73 x3_1 t177).f3)))) = some r := by rw [← hbq58] at H; exact H
                                      have Nbq58 := Aside0.mk hbq58
                                      clear hbq58
                                      by_cases c59 : (bq58 = true)
                                      · subst c59
                                        have H1 : (laws_FnNext.l1 k3 x3_1 x4_1 t177 (wrap64 (x7_3 + 1)) ((rd_T73 x3_1 t177).f0) ((rd_T73 x3_1 t177).f1) ((rd_T73 x3_1 t177).f2) ((rd_T73 x3_1 t177).f3)) = some r := by rw [if_pos rfl] at H; exact H
                                        clear H
                                        have H := H1
                                        clear H1
                                        have H' := Aside0.mk H
                                        clear H
                                        have p180 : 0 ≤ (x7_3 : Int) := of_decide_eq_true (by first | (with_reducible assumption) | assumption)
                                        have q180 : x7_3 < (x3_1.length : Int) := of_decide_eq_true (by first | (with_reducible assumption) | assumption)
                                        obtain ⟨ad180, e180, hx180_0, hx180_1, hx180_2, hx180_3⟩ := at_T73 (Kd.R_reads' HO_3.out).2.2 x7_3 p180 q180
                                        (try rw [← Nbq58.out] at hx180_3)
                                        obtain rfl : ad178 = ad180 := (by injection e180)
                                        replace p180 := eq_true p180
                                        replace q180 := eq_true q180
                                        go_wp2_with (first | ((with_reducible refine gate_dst (N := 8) rfl ?_); (try (refine gate_guard (by rfl) ?_; dsimp only)); refine box_event ?hg (N := 8) ?hd (cs := #[.int .i64 0, .int .i64 0, .int .i64 0, .bool false]) (t := 73) ?hr ?_; (case hd => rfl); (case hg => rfl); (case hr => first | (go_simp; done) | (go_simp; rfl)); intro gb181 hg w60 hbox hb; have n0_ := Aside0.mk (Kd.R_below (Kd.R_elderB (by (with_reducible repeat (first | apply Kd.R_alloc | apply Kd.R_drewN | apply Kd.R_drew)); exact HO_3.out) gb181 (Nat.le_of_eq hg.symm)) hb); have n1_ := Aside0.mk (blk_below (g := gb179) (o := .cells #[.int .i64 ((rd_T73 x3_1 t177).f0), .int .i64 ((rd_T73 x3_1 t177).f1), .int .i64 ((rd_T73 x3_1 t177).f2), .bool ((rd_T73 x3_1 t177).f3)] 73 (0, 0)) (by (with_reducible repeat (first | refine blk_drewN ?_ _ | refine blk_drew ?_ | refine blk_alloc ?_ _)); exact BK179.out) hb); have n2_ := Aside0.mk (below_step (by repeat (first | (with_reducible first | exact HB.out | apply below_alloc | apply pw_below_drewN | apply below_drew1 | refine below_set ?_ GE179.out) | exact HB.out)) hb); have n3_ := Aside0.mk (hbox); have n4_ := Aside0.mk ((by rw [hg]; exact (below_size (by repeat (first | (with_reducible first | exact HB.out | apply below_alloc | apply pw_below_drewN | apply below_drew1 | refine below_set ?_ GE179.out) | exact HB.out))) : w.heap.size ≤ gb181)); have n5_ := Aside0.mk ((by rw [hg]; exact (below_size (by repeat (first | (with_reducible first | exact HB.out | apply below_alloc | apply pw_below_drewN | apply below_drew1 | refine below_set ?_ GE179.out) | exact HB.out))) : w.heap.size ≤ gb181)); have n6_ := Aside0.mk ((by rw [hg]; exact Nat.ne_of_lt (blk_lt (g := gb179) (o := .cells #[.int .i64 ((rd_T73 x3_1 t177).f0), .int .i64 ((rd_T73 x3_1 t177).f1), .int .i64 ((rd_T73 x3_1 t177).f2), .bool ((rd_T73 x3_1 t177).f3)] 73 (0, 0)) (by (with_reducible repeat (first | refine blk_drewN ?_ _ | refine blk_drew ?_ | refine blk_alloc ?_ _)); exact BK179.out)) : gb179 ≠ gb181)); have n7_ := Aside0.mk ((by rw [hg]; exact Nat.ne_of_gt (blk_lt (g := gb179) (o := .cells #[.int .i64 ((rd_T73 x3_1 t177).f0), .int .i64 ((rd_T73 x3_1 t177).f1), .int .i64 ((rd_T73 x3_1 t177).f2), .bool ((rd_T73 x3_1 t177).f3)] 73 (0, 0)) (by (with_reducible repeat (first | refine blk_drewN ?_ _ | refine blk_drew ?_ | refine blk_alloc ?_ _)); exact BK179.out)) : gb181 ≠ gb179)); clear HO_3; clear BK179; clear HB; have HO_3 := n0_; have BK179 := n1_; have HB := n2_; have BK181 := n3_; have GW181 := n4_; have GE181 := n5_; have NB179_181 := n6_; have NB181_179 := n7_; clear n0_ n1_ n2_ n3_ n4_ n5_ n6_ n7_; clear hb hbox hg; have hnb61 := NB181_179.out; have hnc61 := NB179_181.out; have hcz62_0 : w60.cell? ⟨gb181, 0, none⟩ = some (.int .i64 0) := (blk_cell BK181.out 0).trans rfl; have hcz62_1 : w60.cell? ⟨gb181, 1, none⟩ = some (.int .i64 0) := (blk_cell BK181.out 1).trans rfl; have hcz62_2 : w60.cell? ⟨gb181, 2, none⟩ = some (.int .i64 0) := (blk_cell BK181.out 2).trans rfl; have hcz62_3 : w60.cell? ⟨gb181, 3, none⟩ = some (.bool false) := (blk_cell BK181.out 3).trans rfl; have hfz62_0 := blk_frozen BK181.out 0; have hfz62_1 := blk_frozen BK181.out 1; have hfz62_2 := blk_frozen BK181.out 2; have hfz62_3 := blk_frozen BK181.out 3; have hcz63_0 : w60.cell? ⟨gb179, 0, none⟩ = some (.int .i64 ((rd_T73 x3_1 t177).f0)) := (blk_cell BK179.out 0).trans rfl; have hcz63_1 : w60.cell? ⟨gb179, 1, none⟩ = some (.int .i64 ((rd_T73 x3_1 t177).f1)) := (blk_cell BK179.out 1).trans rfl; have hcz63_2 : w60.cell? ⟨gb179, 2, none⟩ = some (.int .i64 ((rd_T73 x3_1 t177).f2)) := (blk_cell BK179.out 2).trans rfl; have hcz63_3 : w60.cell? ⟨gb179, 3, none⟩ = some (.bool ((rd_T73 x3_1 t177).f3)) := (blk_cell BK179.out 3).trans rfl; have hfz63_0 := blk_frozen BK179.out 0; have hfz63_1 := blk_frozen BK179.out 1; have hfz63_2 := blk_frozen BK179.out 2; have hfz63_3 := blk_frozen BK179.out 3))
                                        (try rw [show (#[.int .i64 (rd_T73 x3_1 t177).f0, .int .i64 (rd_T73 x3_1 t177).f1, .int .i64 (rd_T73 x3_1 t177).f2, .bool true] : Array Value) = #[.int .i64 (rd_T73 x3_1 t177).f0, .int .i64 (rd_T73 x3_1 t177).f1, .int .i64 (rd_T73 x3_1 t177).f2, .bool (rd_T73 x3_1 t177).f3] from by rw [(by assumption : (rd_T73 x3_1 t177).f3 = true)]])
                                        (try rw [show (#[.int .i64 (rd_T73 x3_1 t177).f0, .int .i64 (rd_T73 x3_1 t177).f1, .int .i64 (rd_T73 x3_1 t177).f2, .bool false] : Array Value) = #[.int .i64 (rd_T73 x3_1 t177).f0, .int .i64 (rd_T73 x3_1 t177).f1, .int .i64 (rd_T73 x3_1 t177).f2, .bool (rd_T73 x3_1 t177).f3] from by rw [(by assumption : (rd_T73 x3_1 t177).f3 = false)]])
                                        (try rw [show (#[.int .i64 (rd_T73 x3_1 t177).f0, .int .i64 (rd_T73 x3_1 t177).f1, .int .i64 (rd_T73 x3_1 t177).f2, .bool true] : Array Value) = #[.int .i64 (rd_T73 x3_1 t177).f0, .int .i64 (rd_T73 x3_1 t177).f1, .int .i64 (rd_T73 x3_1 t177).f2, .bool (rd_T73 x3_1 t177).f3] from by rw [(by assumption : (rd_T73 x3_1 t177).f3 = true)]])
                                        (try rw [show (#[.int .i64 (rd_T73 x3_1 t177).f0, .int .i64 (rd_T73 x3_1 t177).f1, .int .i64 (rd_T73 x3_1 t177).f2, .bool false] : Array Value) = #[.int .i64 (rd_T73 x3_1 t177).f0, .int .i64 (rd_T73 x3_1 t177).f1, .int .i64 (rd_T73 x3_1 t177).f2, .bool (rd_T73 x3_1 t177).f3] from by rw [(by assumption : (rd_T73 x3_1 t177).f3 = false)]])
                                        go_roundg k3
                                        case measure => have := HK1.out; have := HJ15.out; have := HK3.out; omega
                                        case rel => exact ⟨(wrap64 (x7_3 + 1)), (by first | rfl | (simp; done) | (simp [*]; done)), H', ⟨by have := HK1.out; have := HJ15.out; have := HK3.out; omega⟩, ⟨by (with_reducible repeat (first | apply Kd.R_alloc | apply Kd.R_drewN | apply Kd.R_drew)); exact Kd.R_mono (Kd.R_far (p := ⟨gb181, 3, none⟩) (Kd.R_far (p := ⟨gb181, 2, none⟩) (Kd.R_far (p := ⟨gb181, 1, none⟩) (Kd.R_far (p := ⟨gb181, 0, none⟩) (Kd.R_mono HO_3.out (fun k_ hk => (⟨hk, hk.2⟩ : _ ∧ k_ ≠ gb181))) (fun _ hk => hk.2) (.int .i64 ((rd_T73 x3_1 x7_3).f0))) (fun _ hk => hk.2) (.int .i64 ((rd_T73 x3_1 x7_3).f1))) (fun _ hk => hk.2) (.int .i64 ((rd_T73 x3_1 x7_3).f2))) (fun _ hk => hk.2) (.bool true)) (fun _ hk => hk.1.1)⟩, ⟨by (with_reducible repeat (first | refine blk_drewN ?_ _ | refine blk_drew ?_ | refine blk_alloc ?_ _)); refine blk_far ?_ NB179_181.out _; (with_reducible repeat (first | refine blk_drewN ?_ _ | refine blk_drew ?_ | refine blk_alloc ?_ _)); refine blk_far ?_ NB179_181.out _; (with_reducible repeat (first | refine blk_drewN ?_ _ | refine blk_drew ?_ | refine blk_alloc ?_ _)); refine blk_far ?_ NB179_181.out _; (with_reducible repeat (first | refine blk_drewN ?_ _ | refine blk_drew ?_ | refine blk_alloc ?_ _)); refine blk_far ?_ NB179_181.out _; (with_reducible repeat (first | refine blk_drewN ?_ _ | refine blk_drew ?_ | refine blk_alloc ?_ _)); exact BK179.out⟩, ⟨by repeat (first | (with_reducible first | exact HB.out | apply below_alloc | apply pw_below_drewN | apply below_drew1 | refine below_set ?_ GE179.out | refine below_set ?_ GE181.out) | exact HB.out)⟩⟩
                                      · replace c59 := Bool.eq_false_iff.mpr c59
                                        subst c59
                                        have H1 : (if ((rd_T73 x3_1 x7_3).f0) < ((rd_T73 x3_1 t177).f0) then (some false) else (laws_FnNext.l1 k3 x3_1 x4_1 t177 (wrap64 (x7_3 + 1)) ((rd_T73 x3_1 t177).f0) ((rd_T73 x3_1 t177).f1) ((rd_T73 x3_1 t177).f2) ((rd_T73 x3_1 t177).f3))) = some r := by rw [if_neg (show ¬ (false = true) by decide)] at H; exact H
                                        clear H
                                        have H := H1
                                        clear H1
                                        by_cases c64 : ((rd_T73 x3_1 x7_3).f0) < ((rd_T73 x3_1 t177).f0)
                                        · rw [if_pos c64] at H
                                          have c64b0 : decide (((rd_T73 x3_1 x7_3).f0) < ((rd_T73 x3_1 t177).f0)) = true := decide_eq_true c64
                                          clear c64
                                          obtain rfl := Option.some.inj H
                                          have p180 : 0 ≤ (x7_3 : Int) := of_decide_eq_true (by first | (with_reducible assumption) | assumption)
                                          have q180 : x7_3 < (x3_1.length : Int) := of_decide_eq_true (by first | (with_reducible assumption) | assumption)
                                          obtain ⟨ad180, e180, hx180_0, hx180_1, hx180_2, hx180_3⟩ := at_T73 (Kd.R_reads' HO_3.out).2.2 x7_3 p180 q180
                                          (try rw [← Nbq58.out] at hx180_3)
                                          obtain rfl : ad178 = ad180 := (by injection e180)
                                          replace p180 := eq_true p180
                                          replace q180 := eq_true q180
                                          go_wp2_with (first | ((with_reducible refine gate_dst (N := 8) rfl ?_); (try (refine gate_guard (by rfl) ?_; dsimp only)); refine box_event ?hg (N := 8) ?hd (cs := #[.int .i64 0, .int .i64 0, .int .i64 0, .bool false]) (t := 73) ?hr ?_; (case hd => rfl); (case hg => rfl); (case hr => first | (go_simp; done) | (go_simp; rfl)); intro gb181 hg w65 hbox hb; have n0_ := Aside0.mk (Kd.R_below (Kd.R_elderB (by (with_reducible repeat (first | apply Kd.R_alloc | apply Kd.R_drewN | apply Kd.R_drew)); exact HO_3.out) gb181 (Nat.le_of_eq hg.symm)) hb); have n1_ := Aside0.mk (blk_below (g := gb179) (o := .cells #[.int .i64 ((rd_T73 x3_1 t177).f0), .int .i64 ((rd_T73 x3_1 t177).f1), .int .i64 ((rd_T73 x3_1 t177).f2), .bool ((rd_T73 x3_1 t177).f3)] 73 (0, 0)) (by (with_reducible repeat (first | refine blk_drewN ?_ _ | refine blk_drew ?_ | refine blk_alloc ?_ _)); exact BK179.out) hb); have n2_ := Aside0.mk (below_step (by repeat (first | (with_reducible first | exact HB.out | apply below_alloc | apply pw_below_drewN | apply below_drew1 | refine below_set ?_ GE179.out) | exact HB.out)) hb); have n3_ := Aside0.mk (hbox); have n4_ := Aside0.mk ((by rw [hg]; exact (below_size (by repeat (first | (with_reducible first | exact HB.out | apply below_alloc | apply pw_below_drewN | apply below_drew1 | refine below_set ?_ GE179.out) | exact HB.out))) : w.heap.size ≤ gb181)); have n5_ := Aside0.mk ((by rw [hg]; exact (below_size (by repeat (first | (with_reducible first | exact HB.out | apply below_alloc | apply pw_below_drewN | apply below_drew1 | refine below_set ?_ GE179.out) | exact HB.out))) : w.heap.size ≤ gb181)); have n6_ := Aside0.mk ((by rw [hg]; exact Nat.ne_of_lt (blk_lt (g := gb179) (o := .cells #[.int .i64 ((rd_T73 x3_1 t177).f0), .int .i64 ((rd_T73 x3_1 t177).f1), .int .i64 ((rd_T73 x3_1 t177).f2), .bool ((rd_T73 x3_1 t177).f3)] 73 (0, 0)) (by (with_reducible repeat (first | refine blk_drewN ?_ _ | refine blk_drew ?_ | refine blk_alloc ?_ _)); exact BK179.out)) : gb179 ≠ gb181)); have n7_ := Aside0.mk ((by rw [hg]; exact Nat.ne_of_gt (blk_lt (g := gb179) (o := .cells #[.int .i64 ((rd_T73 x3_1 t177).f0), .int .i64 ((rd_T73 x3_1 t177).f1), .int .i64 ((rd_T73 x3_1 t177).f2), .bool ((rd_T73 x3_1 t177).f3)] 73 (0, 0)) (by (with_reducible repeat (first | refine blk_drewN ?_ _ | refine blk_drew ?_ | refine blk_alloc ?_ _)); exact BK179.out)) : gb181 ≠ gb179)); clear HO_3; clear BK179; clear HB; have HO_3 := n0_; have BK179 := n1_; have HB := n2_; have BK181 := n3_; have GW181 := n4_; have GE181 := n5_; have NB179_181 := n6_; have NB181_179 := n7_; clear n0_ n1_ n2_ n3_ n4_ n5_ n6_ n7_; clear hb hbox hg; have hnb66 := NB181_179.out; have hnc66 := NB179_181.out; have hcz67_0 : w65.cell? ⟨gb181, 0, none⟩ = some (.int .i64 0) := (blk_cell BK181.out 0).trans rfl; have hcz67_1 : w65.cell? ⟨gb181, 1, none⟩ = some (.int .i64 0) := (blk_cell BK181.out 1).trans rfl; have hcz67_2 : w65.cell? ⟨gb181, 2, none⟩ = some (.int .i64 0) := (blk_cell BK181.out 2).trans rfl; have hcz67_3 : w65.cell? ⟨gb181, 3, none⟩ = some (.bool false) := (blk_cell BK181.out 3).trans rfl; have hfz67_0 := blk_frozen BK181.out 0; have hfz67_1 := blk_frozen BK181.out 1; have hfz67_2 := blk_frozen BK181.out 2; have hfz67_3 := blk_frozen BK181.out 3; have hcz68_0 : w65.cell? ⟨gb179, 0, none⟩ = some (.int .i64 ((rd_T73 x3_1 t177).f0)) := (blk_cell BK179.out 0).trans rfl; have hcz68_1 : w65.cell? ⟨gb179, 1, none⟩ = some (.int .i64 ((rd_T73 x3_1 t177).f1)) := (blk_cell BK179.out 1).trans rfl; have hcz68_2 : w65.cell? ⟨gb179, 2, none⟩ = some (.int .i64 ((rd_T73 x3_1 t177).f2)) := (blk_cell BK179.out 2).trans rfl; have hcz68_3 : w65.cell? ⟨gb179, 3, none⟩ = some (.bool ((rd_T73 x3_1 t177).f3)) := (blk_cell BK179.out 3).trans rfl; have hfz68_0 := blk_frozen BK179.out 0; have hfz68_1 := blk_frozen BK179.out 1; have hfz68_2 := blk_frozen BK179.out 2; have hfz68_3 := blk_frozen BK179.out 3))
                                          go_ret
                                          exact ⟨by first | rfl | (simp [errW_none, errW_some] <;> rfl) | (simp [*, errW_none, errW_some] <;> rfl), by repeat (first | (with_reducible first | exact HB.out | apply below_alloc | apply pw_below_drewN | apply below_drew1 | refine below_set ?_ GE179.out | refine below_set ?_ GE181.out) | exact HB.out)⟩
                                        · rw [if_neg c64] at H
                                          have c64b0 : decide (((rd_T73 x3_1 x7_3).f0) < ((rd_T73 x3_1 t177).f0)) = false := decide_eq_false c64
                                          clear c64
                                          have H' := Aside0.mk H
                                          clear H
                                          have p180 : 0 ≤ (x7_3 : Int) := of_decide_eq_true (by first | (with_reducible assumption) | assumption)
                                          have q180 : x7_3 < (x3_1.length : Int) := of_decide_eq_true (by first | (with_reducible assumption) | assumption)
                                          obtain ⟨ad180, e180, hx180_0, hx180_1, hx180_2, hx180_3⟩ := at_T73 (Kd.R_reads' HO_3.out).2.2 x7_3 p180 q180
                                          (try rw [← Nbq58.out] at hx180_3)
                                          obtain rfl : ad178 = ad180 := (by injection e180)
                                          replace p180 := eq_true p180
                                          replace q180 := eq_true q180
                                          go_wp2_with (first | ((with_reducible refine gate_dst (N := 8) rfl ?_); (try (refine gate_guard (by rfl) ?_; dsimp only)); refine box_event ?hg (N := 8) ?hd (cs := #[.int .i64 0, .int .i64 0, .int .i64 0, .bool false]) (t := 73) ?hr ?_; (case hd => rfl); (case hg => rfl); (case hr => first | (go_simp; done) | (go_simp; rfl)); intro gb181 hg w69 hbox hb; have n0_ := Aside0.mk (Kd.R_below (Kd.R_elderB (by (with_reducible repeat (first | apply Kd.R_alloc | apply Kd.R_drewN | apply Kd.R_drew)); exact HO_3.out) gb181 (Nat.le_of_eq hg.symm)) hb); have n1_ := Aside0.mk (blk_below (g := gb179) (o := .cells #[.int .i64 ((rd_T73 x3_1 t177).f0), .int .i64 ((rd_T73 x3_1 t177).f1), .int .i64 ((rd_T73 x3_1 t177).f2), .bool ((rd_T73 x3_1 t177).f3)] 73 (0, 0)) (by (with_reducible repeat (first | refine blk_drewN ?_ _ | refine blk_drew ?_ | refine blk_alloc ?_ _)); exact BK179.out) hb); have n2_ := Aside0.mk (below_step (by repeat (first | (with_reducible first | exact HB.out | apply below_alloc | apply pw_below_drewN | apply below_drew1 | refine below_set ?_ GE179.out) | exact HB.out)) hb); have n3_ := Aside0.mk (hbox); have n4_ := Aside0.mk ((by rw [hg]; exact (below_size (by repeat (first | (with_reducible first | exact HB.out | apply below_alloc | apply pw_below_drewN | apply below_drew1 | refine below_set ?_ GE179.out) | exact HB.out))) : w.heap.size ≤ gb181)); have n5_ := Aside0.mk ((by rw [hg]; exact (below_size (by repeat (first | (with_reducible first | exact HB.out | apply below_alloc | apply pw_below_drewN | apply below_drew1 | refine below_set ?_ GE179.out) | exact HB.out))) : w.heap.size ≤ gb181)); have n6_ := Aside0.mk ((by rw [hg]; exact Nat.ne_of_lt (blk_lt (g := gb179) (o := .cells #[.int .i64 ((rd_T73 x3_1 t177).f0), .int .i64 ((rd_T73 x3_1 t177).f1), .int .i64 ((rd_T73 x3_1 t177).f2), .bool ((rd_T73 x3_1 t177).f3)] 73 (0, 0)) (by (with_reducible repeat (first | refine blk_drewN ?_ _ | refine blk_drew ?_ | refine blk_alloc ?_ _)); exact BK179.out)) : gb179 ≠ gb181)); have n7_ := Aside0.mk ((by rw [hg]; exact Nat.ne_of_gt (blk_lt (g := gb179) (o := .cells #[.int .i64 ((rd_T73 x3_1 t177).f0), .int .i64 ((rd_T73 x3_1 t177).f1), .int .i64 ((rd_T73 x3_1 t177).f2), .bool ((rd_T73 x3_1 t177).f3)] 73 (0, 0)) (by (with_reducible repeat (first | refine blk_drewN ?_ _ | refine blk_drew ?_ | refine blk_alloc ?_ _)); exact BK179.out)) : gb181 ≠ gb179)); clear HO_3; clear BK179; clear HB; have HO_3 := n0_; have BK179 := n1_; have HB := n2_; have BK181 := n3_; have GW181 := n4_; have GE181 := n5_; have NB179_181 := n6_; have NB181_179 := n7_; clear n0_ n1_ n2_ n3_ n4_ n5_ n6_ n7_; clear hb hbox hg; have hnb70 := NB181_179.out; have hnc70 := NB179_181.out; have hcz71_0 : w69.cell? ⟨gb181, 0, none⟩ = some (.int .i64 0) := (blk_cell BK181.out 0).trans rfl; have hcz71_1 : w69.cell? ⟨gb181, 1, none⟩ = some (.int .i64 0) := (blk_cell BK181.out 1).trans rfl; have hcz71_2 : w69.cell? ⟨gb181, 2, none⟩ = some (.int .i64 0) := (blk_cell BK181.out 2).trans rfl; have hcz71_3 : w69.cell? ⟨gb181, 3, none⟩ = some (.bool false) := (blk_cell BK181.out 3).trans rfl; have hfz71_0 := blk_frozen BK181.out 0; have hfz71_1 := blk_frozen BK181.out 1; have hfz71_2 := blk_frozen BK181.out 2; have hfz71_3 := blk_frozen BK181.out 3; have hcz72_0 : w69.cell? ⟨gb179, 0, none⟩ = some (.int .i64 ((rd_T73 x3_1 t177).f0)) := (blk_cell BK179.out 0).trans rfl; have hcz72_1 : w69.cell? ⟨gb179, 1, none⟩ = some (.int .i64 ((rd_T73 x3_1 t177).f1)) := (blk_cell BK179.out 1).trans rfl; have hcz72_2 : w69.cell? ⟨gb179, 2, none⟩ = some (.int .i64 ((rd_T73 x3_1 t177).f2)) := (blk_cell BK179.out 2).trans rfl; have hcz72_3 : w69.cell? ⟨gb179, 3, none⟩ = some (.bool ((rd_T73 x3_1 t177).f3)) := (blk_cell BK179.out 3).trans rfl; have hfz72_0 := blk_frozen BK179.out 0; have hfz72_1 := blk_frozen BK179.out 1; have hfz72_2 := blk_frozen BK179.out 2; have hfz72_3 := blk_frozen BK179.out 3))
                                          (try rw [show (#[.int .i64 (rd_T73 x3_1 t177).f0, .int .i64 (rd_T73 x3_1 t177).f1, .int .i64 (rd_T73 x3_1 t177).f2, .bool true] : Array Value) = #[.int .i64 (rd_T73 x3_1 t177).f0, .int .i64 (rd_T73 x3_1 t177).f1, .int .i64 (rd_T73 x3_1 t177).f2, .bool (rd_T73 x3_1 t177).f3] from by rw [(by assumption : (rd_T73 x3_1 t177).f3 = true)]])
                                          (try rw [show (#[.int .i64 (rd_T73 x3_1 t177).f0, .int .i64 (rd_T73 x3_1 t177).f1, .int .i64 (rd_T73 x3_1 t177).f2, .bool false] : Array Value) = #[.int .i64 (rd_T73 x3_1 t177).f0, .int .i64 (rd_T73 x3_1 t177).f1, .int .i64 (rd_T73 x3_1 t177).f2, .bool (rd_T73 x3_1 t177).f3] from by rw [(by assumption : (rd_T73 x3_1 t177).f3 = false)]])
                                          (try rw [show (#[.int .i64 (rd_T73 x3_1 t177).f0, .int .i64 (rd_T73 x3_1 t177).f1, .int .i64 (rd_T73 x3_1 t177).f2, .bool true] : Array Value) = #[.int .i64 (rd_T73 x3_1 t177).f0, .int .i64 (rd_T73 x3_1 t177).f1, .int .i64 (rd_T73 x3_1 t177).f2, .bool (rd_T73 x3_1 t177).f3] from by rw [(by assumption : (rd_T73 x3_1 t177).f3 = true)]])
                                          (try rw [show (#[.int .i64 (rd_T73 x3_1 t177).f0, .int .i64 (rd_T73 x3_1 t177).f1, .int .i64 (rd_T73 x3_1 t177).f2, .bool false] : Array Value) = #[.int .i64 (rd_T73 x3_1 t177).f0, .int .i64 (rd_T73 x3_1 t177).f1, .int .i64 (rd_T73 x3_1 t177).f2, .bool (rd_T73 x3_1 t177).f3] from by rw [(by assumption : (rd_T73 x3_1 t177).f3 = false)]])
                                          go_roundg k3
                                          case measure => have := HK1.out; have := HJ15.out; have := HK3.out; omega
                                          case rel => exact ⟨(wrap64 (x7_3 + 1)), (by first | rfl | (simp; done) | (simp [*]; done)), H', ⟨by have := HK1.out; have := HJ15.out; have := HK3.out; omega⟩, ⟨by (with_reducible repeat (first | apply Kd.R_alloc | apply Kd.R_drewN | apply Kd.R_drew)); exact Kd.R_mono (Kd.R_far (p := ⟨gb181, 3, none⟩) (Kd.R_far (p := ⟨gb181, 2, none⟩) (Kd.R_far (p := ⟨gb181, 1, none⟩) (Kd.R_far (p := ⟨gb181, 0, none⟩) (Kd.R_mono HO_3.out (fun k_ hk => (⟨hk, hk.2⟩ : _ ∧ k_ ≠ gb181))) (fun _ hk => hk.2) (.int .i64 ((rd_T73 x3_1 x7_3).f0))) (fun _ hk => hk.2) (.int .i64 ((rd_T73 x3_1 x7_3).f1))) (fun _ hk => hk.2) (.int .i64 ((rd_T73 x3_1 x7_3).f2))) (fun _ hk => hk.2) (.bool false)) (fun _ hk => hk.1.1)⟩, ⟨by (with_reducible repeat (first | refine blk_drewN ?_ _ | refine blk_drew ?_ | refine blk_alloc ?_ _)); refine blk_far ?_ NB179_181.out _; (with_reducible repeat (first | refine blk_drewN ?_ _ | refine blk_drew ?_ | refine blk_alloc ?_ _)); refine blk_far ?_ NB179_181.out _; (with_reducible repeat (first | refine blk_drewN ?_ _ | refine blk_drew ?_ | refine blk_alloc ?_ _)); refine blk_far ?_ NB179_181.out _; (with_reducible repeat (first | refine blk_drewN ?_ _ | refine blk_drew ?_ | refine blk_alloc ?_ _)); refine blk_far ?_ NB179_181.out _; (with_reducible repeat (first | refine blk_drewN ?_ _ | refine blk_drew ?_ | refine blk_alloc ?_ _)); exact BK179.out⟩, ⟨by repeat (first | (with_reducible first | exact HB.out | apply below_alloc | apply pw_below_drewN | apply below_drew1 | refine below_set ?_ GE179.out | refine below_set ?_ GE181.out) | exact HB.out)⟩⟩
                                  · rw [if_neg c36] at H
                                    have c36b0 : (((rd_T73 x3_1 x7_3).f1) == ((rd_T73 x3_1 t177).f1)) = false := beq_eq_false_iff_ne.mpr c36
                                    have c36b1 : (((rd_T73 x3_1 x7_3).f1) != ((rd_T73 x3_1 t177).f1)) = true := bne_iff_ne.mpr c36
                                    have H' := Aside0.mk H
                                    clear H
                                    have p180 : 0 ≤ (x7_3 : Int) := of_decide_eq_true (by first | (with_reducible assumption) | assumption)
                                    have q180 : x7_3 < (x3_1.length : Int) := of_decide_eq_true (by first | (with_reducible assumption) | assumption)
                                    obtain ⟨ad180, e180, hx180_0, hx180_1, hx180_2, hx180_3⟩ := at_T73 (Kd.R_reads' HO_3.out).2.2 x7_3 p180 q180
                                    obtain rfl : ad178 = ad180 := (by injection e180)
                                    replace p180 := eq_true p180
                                    replace q180 := eq_true q180
                                    go_wp2_with (first | ((with_reducible refine gate_dst (N := 8) rfl ?_); (try (refine gate_guard (by rfl) ?_; dsimp only)); refine box_event ?hg (N := 8) ?hd (cs := #[.int .i64 0, .int .i64 0, .int .i64 0, .bool false]) (t := 73) ?hr ?_; (case hd => rfl); (case hg => rfl); (case hr => first | (go_simp; done) | (go_simp; rfl)); intro gb181 hg w73 hbox hb; have n0_ := Aside0.mk (Kd.R_below (Kd.R_elderB (by (with_reducible repeat (first | apply Kd.R_alloc | apply Kd.R_drewN | apply Kd.R_drew)); exact HO_3.out) gb181 (Nat.le_of_eq hg.symm)) hb); have n1_ := Aside0.mk (blk_below (g := gb179) (o := .cells #[.int .i64 ((rd_T73 x3_1 t177).f0), .int .i64 ((rd_T73 x3_1 t177).f1), .int .i64 ((rd_T73 x3_1 t177).f2), .bool ((rd_T73 x3_1 t177).f3)] 73 (0, 0)) (by (with_reducible repeat (first | refine blk_drewN ?_ _ | refine blk_drew ?_ | refine blk_alloc ?_ _)); exact BK179.out) hb); have n2_ := Aside0.mk (below_step (by repeat (first | (with_reducible first | exact HB.out | apply below_alloc | apply pw_below_drewN | apply below_drew1 | refine below_set ?_ GE179.out) | exact HB.out)) hb); have n3_ := Aside0.mk (hbox); have n4_ := Aside0.mk ((by rw [hg]; exact (below_size (by repeat (first | (with_reducible first | exact HB.out | apply below_alloc | apply pw_below_drewN | apply below_drew1 | refine below_set ?_ GE179.out) | exact HB.out))) : w.heap.size ≤ gb181)); have n5_ := Aside0.mk ((by rw [hg]; exact (below_size (by repeat (first | (with_reducible first | exact HB.out | apply below_alloc | apply pw_below_drewN | apply below_drew1 | refine below_set ?_ GE179.out) | exact HB.out))) : w.heap.size ≤ gb181)); have n6_ := Aside0.mk ((by rw [hg]; exact Nat.ne_of_lt (blk_lt (g := gb179) (o := .cells #[.int .i64 ((rd_T73 x3_1 t177).f0), .int .i64 ((rd_T73 x3_1 t177).f1), .int .i64 ((rd_T73 x3_1 t177).f2), .bool ((rd_T73 x3_1 t177).f3)] 73 (0, 0)) (by (with_reducible repeat (first | refine blk_drewN ?_ _ | refine blk_drew ?_ | refine blk_alloc ?_ _)); exact BK179.out)) : gb179 ≠ gb181)); have n7_ := Aside0.mk ((by rw [hg]; exact Nat.ne_of_gt (blk_lt (g := gb179) (o := .cells #[.int .i64 ((rd_T73 x3_1 t177).f0), .int .i64 ((rd_T73 x3_1 t177).f1), .int .i64 ((rd_T73 x3_1 t177).f2), .bool ((rd_T73 x3_1 t177).f3)] 73 (0, 0)) (by (with_reducible repeat (first | refine blk_drewN ?_ _ | refine blk_drew ?_ | refine blk_alloc ?_ _)); exact BK179.out)) : gb181 ≠ gb179)); clear HO_3; clear BK179; clear HB; have HO_3 := n0_; have BK179 := n1_; have HB := n2_; have BK181 := n3_; have GW181 := n4_; have GE181 := n5_; have NB179_181 := n6_; have NB181_179 := n7_; clear n0_ n1_ n2_ n3_ n4_ n5_ n6_ n7_; clear hb hbox hg; have hnb74 := NB181_179.out; have hnc74 := NB179_181.out; have hcz75_0 : w73.cell? ⟨gb181, 0, none⟩ = some (.int .i64 0) := (blk_cell BK181.out 0).trans rfl; have hcz75_1 : w73.cell? ⟨gb181, 1, none⟩ = some (.int .i64 0) := (blk_cell BK181.out 1).trans rfl; have hcz75_2 : w73.cell? ⟨gb181, 2, none⟩ = some (.int .i64 0) := (blk_cell BK181.out 2).trans rfl; have hcz75_3 : w73.cell? ⟨gb181, 3, none⟩ = some (.bool false) := (blk_cell BK181.out 3).trans rfl; have hfz75_0 := blk_frozen BK181.out 0; have hfz75_1 := blk_frozen BK181.out 1; have hfz75_2 := blk_frozen BK181.out 2; have hfz75_3 := blk_frozen BK181.out 3; have hcz76_0 : w73.cell? ⟨gb179, 0, none⟩ = some (.int .i64 ((rd_T73 x3_1 t177).f0)) := (blk_cell BK179.out 0).trans rfl; have hcz76_1 : w73.cell? ⟨gb179, 1, none⟩ = some (.int .i64 ((rd_T73 x3_1 t177).f1)) := (blk_cell BK179.out 1).trans rfl; have hcz76_2 : w73.cell? ⟨gb179, 2, none⟩ = some (.int .i64 ((rd_T73 x3_1 t177).f2)) := (blk_cell BK179.out 2).trans rfl; have hcz76_3 : w73.cell? ⟨gb179, 3, none⟩ = some (.bool ((rd_T73 x3_1 t177).f3)) := (blk_cell BK179.out 3).trans rfl; have hfz76_0 := blk_frozen BK179.out 0; have hfz76_1 := blk_frozen BK179.out 1; have hfz76_2 := blk_frozen BK179.out 2; have hfz76_3 := blk_frozen BK179.out 3))
                                    (try rw [show (#[.int .i64 (rd_T73 x3_1 t177).f0, .int .i64 (rd_T73 x3_1 t177).f1, .int .i64 (rd_T73 x3_1 t177).f2, .bool true] : Array Value) = #[.int .i64 (rd_T73 x3_1 t177).f0, .int .i64 (rd_T73 x3_1 t177).f1, .int .i64 (rd_T73 x3_1 t177).f2, .bool (rd_T73 x3_1 t177).f3] from by rw [(by assumption : (rd_T73 x3_1 t177).f3 = true)]])
                                    (try rw [show (#[.int .i64 (rd_T73 x3_1 t177).f0, .int .i64 (rd_T73 x3_1 t177).f1, .int .i64 (rd_T73 x3_1 t177).f2, .bool false] : Array Value) = #[.int .i64 (rd_T73 x3_1 t177).f0, .int .i64 (rd_T73 x3_1 t177).f1, .int .i64 (rd_T73 x3_1 t177).f2, .bool (rd_T73 x3_1 t177).f3] from by rw [(by assumption : (rd_T73 x3_1 t177).f3 = false)]])
                                    (try rw [show (#[.int .i64 (rd_T73 x3_1 t177).f0, .int .i64 (rd_T73 x3_1 t177).f1, .int .i64 (rd_T73 x3_1 t177).f2, .bool true] : Array Value) = #[.int .i64 (rd_T73 x3_1 t177).f0, .int .i64 (rd_T73 x3_1 t177).f1, .int .i64 (rd_T73 x3_1 t177).f2, .bool (rd_T73 x3_1 t177).f3] from by rw [(by assumption : (rd_T73 x3_1 t177).f3 = true)]])
                                    (try rw [show (#[.int .i64 (rd_T73 x3_1 t177).f0, .int .i64 (rd_T73 x3_1 t177).f1, .int .i64 (rd_T73 x3_1 t177).f2, .bool false] : Array Value) = #[.int .i64 (rd_T73 x3_1 t177).f0, .int .i64 (rd_T73 x3_1 t177).f1, .int .i64 (rd_T73 x3_1 t177).f2, .bool (rd_T73 x3_1 t177).f3] from by rw [(by assumption : (rd_T73 x3_1 t177).f3 = false)]])
                                    go_roundg k3
                                    case measure => have := HK1.out; have := HJ15.out; have := HK3.out; omega
                                    case rel => exact ⟨(wrap64 (x7_3 + 1)), (by first | rfl | (simp; done) | (simp [*]; done)), H', ⟨by have := HK1.out; have := HJ15.out; have := HK3.out; omega⟩, ⟨by (with_reducible repeat (first | apply Kd.R_alloc | apply Kd.R_drewN | apply Kd.R_drew)); exact Kd.R_mono (Kd.R_far (p := ⟨gb181, 3, none⟩) (Kd.R_far (p := ⟨gb181, 2, none⟩) (Kd.R_far (p := ⟨gb181, 1, none⟩) (Kd.R_far (p := ⟨gb181, 0, none⟩) (Kd.R_mono HO_3.out (fun k_ hk => (⟨hk, hk.2⟩ : _ ∧ k_ ≠ gb181))) (fun _ hk => hk.2) (.int .i64 ((rd_T73 x3_1 x7_3).f0))) (fun _ hk => hk.2) (.int .i64 ((rd_T73 x3_1 x7_3).f1))) (fun _ hk => hk.2) (.int .i64 ((rd_T73 x3_1 x7_3).f2))) (fun _ hk => hk.2) (.bool ((rd_T73 x3_1 x7_3).f3))) (fun _ hk => hk.1.1)⟩, ⟨by (with_reducible repeat (first | refine blk_drewN ?_ _ | refine blk_drew ?_ | refine blk_alloc ?_ _)); refine blk_far ?_ NB179_181.out _; (with_reducible repeat (first | refine blk_drewN ?_ _ | refine blk_drew ?_ | refine blk_alloc ?_ _)); refine blk_far ?_ NB179_181.out _; (with_reducible repeat (first | refine blk_drewN ?_ _ | refine blk_drew ?_ | refine blk_alloc ?_ _)); refine blk_far ?_ NB179_181.out _; (with_reducible repeat (first | refine blk_drewN ?_ _ | refine blk_drew ?_ | refine blk_alloc ?_ _)); refine blk_far ?_ NB179_181.out _; (with_reducible repeat (first | refine blk_drewN ?_ _ | refine blk_drew ?_ | refine blk_alloc ?_ _)); exact BK179.out⟩, ⟨by repeat (first | (with_reducible first | exact HB.out | apply below_alloc | apply pw_below_drewN | apply below_drew1 | refine below_set ?_ GE179.out | refine below_set ?_ GE181.out) | exact HB.out)⟩⟩
                              · rw [if_neg c30] at H
                                exact absurd H (by simp)
                            · rw [if_neg c29] at H
                              have c29b0 : decide (x7_3 < (x3_1.length : Int)) = false := decide_eq_false c29
                              clear c29
                              by_cases c77 : ((rd_T73 x3_1 t177).f1) < x4_1
                              · rw [if_pos c77] at H
                                have c77b0 : decide (((rd_T73 x3_1 t177).f1) < x4_1) = true := decide_eq_true c77
                                clear c77
                                obtain rfl := Option.some.inj H
                                have hcz78_0 : wr.cell? ⟨gb179, 0, none⟩ = some (.int .i64 ((rd_T73 x3_1 t177).f0)) := (blk_cell BK179.out 0).trans rfl
                                have hcz78_1 : wr.cell? ⟨gb179, 1, none⟩ = some (.int .i64 ((rd_T73 x3_1 t177).f1)) := (blk_cell BK179.out 1).trans rfl
                                have hcz78_2 : wr.cell? ⟨gb179, 2, none⟩ = some (.int .i64 ((rd_T73 x3_1 t177).f2)) := (blk_cell BK179.out 2).trans rfl
                                have hcz78_3 : wr.cell? ⟨gb179, 3, none⟩ = some (.bool ((rd_T73 x3_1 t177).f3)) := (blk_cell BK179.out 3).trans rfl
                                have hfz78_0 := blk_frozen BK179.out 0
                                have hfz78_1 := blk_frozen BK179.out 1
                                have hfz78_2 := blk_frozen BK179.out 2
                                have hfz78_3 := blk_frozen BK179.out 3
                                go_wp2
                                go_ret
                                exact ⟨by first | rfl | (simp [errW_none, errW_some] <;> rfl) | (simp [*, errW_none, errW_some] <;> rfl), by repeat (first | (with_reducible first | exact HB.out | apply below_alloc | apply pw_below_drewN | apply below_drew1 | refine below_set ?_ GE179.out) | exact HB.out)⟩
                              · rw [if_neg c77] at H
                                have c77b0 : decide (((rd_T73 x3_1 t177).f1) < x4_1) = false := decide_eq_false c77
                                clear c77
                                obtain ⟨y182, hy182⟩ : ∃ y_ : List (S73), y_ = (([] : List (S73))) := ⟨_, rfl⟩
                                replace H : (if 0 ≤ t177 then (if t177 ≤ (x3_1.length : Int) then ((some (x3_1.take (t177 : Int).toNat : List (S73))).bind fun y185 => (if y182.length + y185.length < 4398046511104 then ((some (y182 ++ y185 : List (S73))).bind fun y189 => (if 0 ≤ (wrap64 (t177 + 1)) then (if (wrap64 (t177 + 1)) ≤ (x3_1.length : Int) then ((some (x3_1.drop ((wrap64 (t177 + 1)) : Int).toNat : List (S73))).bind fun y192 => (if y189.length + y192.length < 4398046511104 then (laws_FnNext.l0 k3 (y189 ++ y192) ((rd_T73 x3_1 t177).f1)) else (none))) else (none)) else (none))) else (none))) else (none)) else (none)) = some r := by first | (rw [hy182]; with_reducible exact H) | (have H2_ := (Option.bind_some _ _).symm.trans H; rw [hy182]; with_reducible exact H2_) | (have H2_ := (Option.bind_some _ _).symm.trans H; with_reducible exact H2_) | with_reducible exact H | (rw [hy182]; exact H) | exact H
                                have Ny182 := Aside0.mk hy182
                                clear hy182
                                by_cases c79 : 0 ≤ t177
                                · rw [if_pos c79] at H
                                  have c79b0 := eq_true c79
                                  have c79b1 : decide (0 ≤ t177) = true := decide_eq_true c79
                                  clear c79
                                  by_cases c80 : t177 ≤ (x3_1.length : Int)
                                  · rw [if_pos c80] at H
                                    have c80b0 := eq_true c80
                                    have c80b1 : decide (t177 ≤ (x3_1.length : Int)) = true := decide_eq_true c80
                                    clear c80
                                    obtain ⟨y185, hy185⟩ : ∃ y_ : List (S73), y_ = (x3_1.take (t177 : Int).toNat) := ⟨_, rfl⟩
                                    replace H : (if y182.length + y185.length < 4398046511104 then ((some (y182 ++ y185 : List (S73))).bind fun y189 => (if 0 ≤ (wrap64 (t177 + 1)) then (if (wrap64 (t177 + 1)) ≤ (x3_1.length : Int) then ((some (x3_1.drop ((wrap64 (t177 + 1)) : Int).toNat : List (S73))).bind fun y192 => (if y189.length + y192.length < 4398046511104 then (laws_FnNext.l0 k3 (y189 ++ y192) ((rd_T73 x3_1 t177).f1)) else (none))) else (none)) else (none))) else (none)) = some r := by first | (rw [hy185]; with_reducible exact H) | (have H2_ := (Option.bind_some _ _).symm.trans H; rw [hy185]; with_reducible exact H2_) | (have H2_ := (Option.bind_some _ _).symm.trans H; with_reducible exact H2_) | with_reducible exact H | (rw [hy185]; exact H) | exact H
                                    have Ny185 := Aside0.mk hy185
                                    clear hy185
                                    by_cases c81 : y182.length + y185.length < 4398046511104
                                    · rw [if_pos c81] at H
                                      have LMc81 := Aside0.mk c81
                                      clear c81
                                      obtain ⟨y189, hy189⟩ : ∃ y_ : List (S73), y_ = (y182 ++ y185) := ⟨_, rfl⟩
                                      replace H : (if 0 ≤ (wrap64 (t177 + 1)) then (if (wrap64 (t177 + 1)) ≤ (x3_1.length : Int) then ((some (x3_1.drop ((wrap64 (t177 + 1)) : Int).toNat : List (S73))).bind fun y192 => (if y189.length + y192.length < 4398046511104 then (laws_FnNext.l0 k3 (y189 ++ y192) ((rd_T73 x3_1 t177).f1)) else (none))) else (none)) else (none)) = some r := by first | (rw [hy189]; with_reducible exact H) | (have H2_ := (Option.bind_some _ _).symm.trans H; rw [hy189]; with_reducible exact H2_) | (have H2_ := (Option.bind_some _ _).symm.trans H; with_reducible exact H2_) | with_reducible exact H | (rw [hy189]; exact H) | exact H
                                      have Ny189 := Aside0.mk hy189
                                      clear hy189
                                      obtain ⟨ji82, hji82⟩ : ∃ j_ : Int, (wrap64 (t177 + 1)) = j_ := ⟨_, rfl⟩
                                      replace H : (if 0 ≤ (ji82) then (if (ji82) ≤ (x3_1.length : Int) then ((some (x3_1.drop ((ji82) : Int).toNat : List (S73))).bind fun y192 => (if y189.length + y192.length < 4398046511104 then (laws_FnNext.l0 k3 (y189 ++ y192) ((rd_T73 x3_1 t177).f1)) else (none))) else (none)) else (none)) = some r := by first | (rw [hji82] at H; exact H) | (simp only [hji82] at H ⊢; exact H)
                                      have hji82w : (IntKind.i64.wrap (t177 + 1)) = ji82 := (i64_w _).trans hji82
                                      by_cases c83 : 0 ≤ (ji82)
                                      · rw [if_pos c83] at H
                                        have c83b0 := eq_true c83
                                        have c83b1 : decide (0 ≤ (ji82)) = true := decide_eq_true c83
                                        clear c83
                                        by_cases c84 : (ji82) ≤ (x3_1.length : Int)
                                        · rw [if_pos c84] at H
                                          have c84b0 := eq_true c84
                                          have c84b1 : decide ((ji82) ≤ (x3_1.length : Int)) = true := decide_eq_true c84
                                          clear c84
                                          obtain ⟨y192, hy192⟩ : ∃ y_ : List (S73), y_ = (x3_1.drop ((ji82) : Int).toNat) := ⟨_, rfl⟩
                                          replace H : (if y189.length + y192.length < 4398046511104 then (laws_FnNext.l0 k3 (y189 ++ y192) ((rd_T73 x3_1 t177).f1)) else (none)) = some r := by first | (rw [hy192]; with_reducible exact H) | (have H2_ := (Option.bind_some _ _).symm.trans H; rw [hy192]; with_reducible exact H2_) | (have H2_ := (Option.bind_some _ _).symm.trans H; with_reducible exact H2_) | with_reducible exact H | (rw [hy192]; exact H) | exact H
                                          have Ny192 := Aside0.mk hy192
                                          clear hy192
                                          by_cases c85 : y189.length + y192.length < 4398046511104
                                          · rw [if_pos c85] at H
                                            have LMc85 := Aside0.mk c85
                                            clear c85
                                            obtain ⟨y196, hy196⟩ : ∃ y_ : List (S73), y_ = (y189 ++ y192) := ⟨_, rfl⟩
                                            replace H : (laws_FnNext.l0 k3 y196 ((rd_T73 x3_1 t177).f1)) = some r := by first | (rw [hy196]; with_reducible exact H) | (have H2_ := (Option.bind_some _ _).symm.trans H; rw [hy196]; with_reducible exact H2_) | (have H2_ := (Option.bind_some _ _).symm.trans H; with_reducible exact H2_) | with_reducible exact H | (rw [hy196]; exact H) | exact H
                                            have Ny196 := Aside0.mk hy196
                                            clear hy196
                                            have H' := Aside0.mk H
                                            clear H
                                            have hcz86_0 : wr.cell? ⟨gb179, 0, none⟩ = some (.int .i64 ((rd_T73 x3_1 t177).f0)) := (blk_cell BK179.out 0).trans rfl
                                            have hcz86_1 : wr.cell? ⟨gb179, 1, none⟩ = some (.int .i64 ((rd_T73 x3_1 t177).f1)) := (blk_cell BK179.out 1).trans rfl
                                            have hcz86_2 : wr.cell? ⟨gb179, 2, none⟩ = some (.int .i64 ((rd_T73 x3_1 t177).f2)) := (blk_cell BK179.out 2).trans rfl
                                            have hcz86_3 : wr.cell? ⟨gb179, 3, none⟩ = some (.bool ((rd_T73 x3_1 t177).f3)) := (blk_cell BK179.out 3).trans rfl
                                            have hfz86_0 := blk_frozen BK179.out 0
                                            have hfz86_1 := blk_frozen BK179.out 1
                                            have hfz86_2 := blk_frozen BK179.out 2
                                            have hfz86_3 := blk_frozen BK179.out 3
                                            go_wp2_with (first | ((with_reducible refine gate_dst (N := 111) rfl ?_); (try (refine gate_guard (by rfl) ?_; dsimp only)); refine Kd.R_lit k73 _ 73 ?hg (N := 111) ?hd (xs := ([] : List (S73))) (inner := []) (ok := fun _ => True) (okp := fun _ => True) ?hr ?hp (fun _ hk => hk) trivial (Below.refl _ _) (Nat.le_refl _) (by simp) ?_; (case hd => rfl); (case hg => rfl); (case hr => first | (go_simp; done) | (go_simp; rfl)); (case hp => exact (Reps.none _ _)); intro v183 w87 ho88 hb hg_ hnew_; clear hg_ hnew_; (first | rw [← Ny182.out] at ho88 | (simp only [Int.reduceToNat] at ho88; rw [← Ny182.out] at ho88)); have n0_ := Aside0.mk (Kd.R_elder' (by (with_reducible repeat (first | apply Kd.R_alloc | apply Kd.R_drewN | apply Kd.R_drew)); exact HO_3.out) (Kd.R_base ho88) hb); have n1_ := Aside0.mk (Kd.R_lower (Kd.R_newB (Kd.R_new' ho88 (Kd.R_lt (by (with_reducible repeat (first | apply Kd.R_alloc | apply Kd.R_drewN | apply Kd.R_drew)); exact HO_3.out))) (g := gb179) (o := .cells #[.int .i64 ((rd_T73 x3_1 t177).f0), .int .i64 ((rd_T73 x3_1 t177).f1), .int .i64 ((rd_T73 x3_1 t177).f2), .bool ((rd_T73 x3_1 t177).f3)] 73 (0, 0)) (by (with_reducible repeat (first | refine blk_drewN ?_ _ | refine blk_drew ?_ | refine blk_alloc ?_ _)); exact BK179.out)) (below_size (by repeat (first | (with_reducible first | exact HB.out | apply below_alloc | apply pw_below_drewN | apply below_drew1 | refine below_set ?_ GE179.out) | exact HB.out)))); have n2_ := Aside0.mk (blk_below (g := gb179) (o := .cells #[.int .i64 ((rd_T73 x3_1 t177).f0), .int .i64 ((rd_T73 x3_1 t177).f1), .int .i64 ((rd_T73 x3_1 t177).f2), .bool ((rd_T73 x3_1 t177).f3)] 73 (0, 0)) (by (with_reducible repeat (first | refine blk_drewN ?_ _ | refine blk_drew ?_ | refine blk_alloc ?_ _)); exact BK179.out) hb); have n3_ := Aside0.mk (below_step (by repeat (first | (with_reducible first | exact HB.out | apply below_alloc | apply pw_below_drewN | apply below_drew1 | refine below_set ?_ GE179.out) | exact HB.out)) hb); clear HO_3; clear BK179; clear HB; have HO_3 := n0_; have HO184 := n1_; have BK179 := n2_; have HB := n3_; clear n0_ n1_ n2_ n3_; clear hb ho88; have q89 : (t177 : Int) ≤ ((x3_1.length : Int) : Int) := of_decide_eq_true (by first | (with_reducible assumption) | assumption); obtain ⟨i089, hi089, _, hsz89, _⟩ := info_parts info73; have hroom89 : x3_1.length ≤ co17 := (Kd.R_reads' HO_3.out).2.1; have hC89 : Kd.C k73 _ (some ad178) x3_1.length x3_1 := (Kd.R_reads' HO_3.out).2.2; have hcut89 := cut_to (P := Try.prog) 44 73 .i64 Try.underlying44 hi089 (some ad178) x3_1.length co17 t177 (of_decide_eq_true (by first | (with_reducible assumption) | assumption)) q89 hroom89; have hr89 := Kd.C_take (m := (t177 : Int).toNat) hC89 (by omega); have hy89 : y185.length = (t177 : Int).toNat := (by rw [Ny185.out, List.length_take]; omega); rw [← Ny185.out] at hr89; rw [← hy89] at hcut89; have HR188 := Aside0.mk hr89; have HC188 := Aside0.mk (show y185.length ≤ co17 from by omega); clear hr89 hC89 hroom89 hi089 hsz89; have KY89 := Aside0.mk hy89; clear hy89; have KL89 := Aside0.mk (show (t177 : Int).toNat ≤ x3_1.length from by omega); replace q89 := eq_true q89) | ((with_reducible refine gate_builtin (b := .append) (xs := #[.tmp 111, .tmp 114]) rfl ?_); (try (refine gate_guard (by rfl) ?_; dsimp only)); at_builtin; refine Kd.R_append_rows k73 (w0 := w) w.heap.size rfl (.tmp 111) (.tmp 114) 44 73 (.agg #[(.int .i64 0), (.int .i64 0), (.int .i64 0), (.bool false)]) 32 rfl Try.underlying44 info73 rfl (by decide) (by omega) v183 y182 y185 _ _ _ (fun k_ => some k_ ≠ (.slice (some ad178) x3_1.length co17 : Value).ownBlock ∧ k_ ≠ gb179) (fun _ => False) rfl rfl ?aO ?aR (fun _ _ h => h) (fun _ h => h.elim) ?aF ?aB ?aS ?aL ?_; (case aR => repeat (first | exact (by repeat (first | (with_reducible exact HR188.out) | (with_reducible refine Kd.C_alloc ?_ _) | (with_reducible refine Kd.C_drewN ?_ _) | (with_reducible refine Kd.C_drew ?_) | exact HR188.out)) | (with_reducible refine Kd.C_alloc ?_ _) | (with_reducible refine Kd.C_drewN ?_ _) | (with_reducible refine Kd.C_drew ?_))); (case aB => exact (by repeat (first | (with_reducible first | exact HB.out | apply below_alloc | apply pw_below_drewN | apply below_drew1 | refine below_set ?_ GE179.out) | exact HB.out))); (case aF => exact (fun k_ hk => ⟨Kd.fresh' (Kd.R_lt (by (with_reducible repeat (first | apply Kd.R_alloc | apply Kd.R_drewN | apply Kd.R_drew)); exact HO_3.out)) k_ hk, Kd.freshB (g := gb179) (o := .cells #[.int .i64 ((rd_T73 x3_1 t177).f0), .int .i64 ((rd_T73 x3_1 t177).f1), .int .i64 ((rd_T73 x3_1 t177).f2), .bool ((rd_T73 x3_1 t177).f3)] 73 (0, 0)) (by (with_reducible repeat (first | refine blk_drewN ?_ _ | refine blk_drew ?_ | refine blk_alloc ?_ _)); exact BK179.out) k_ hk⟩)); (case aO => exact (by (with_reducible repeat (first | apply Kd.R_alloc | apply Kd.R_drewN | apply Kd.R_drew)); exact Kd.R_mono HO184.out (fun _ hk => ⟨hk.1.2, hk.2⟩))); (case aS => exact (below_size (by repeat (first | (with_reducible first | exact HB.out | apply below_alloc | apply pw_below_drewN | apply below_drew1 | refine below_set ?_ GE179.out) | exact HB.out)))); (case aL => have := LMc81.out; omega); intro v190 w90 ho hb hg hat; rw [← Ny189.out] at ho; have n0_ := Aside0.mk (Kd.R_after (ok := (fun k_ => k_ ≠ gb179)) (by (with_reducible repeat (first | apply Kd.R_alloc | apply Kd.R_drewN | apply Kd.R_drew)); exact HO_3.out) hg hat); have n1_ := Aside0.mk (blk_grown (g := gb179) (o := .cells #[.int .i64 ((rd_T73 x3_1 t177).f0), .int .i64 ((rd_T73 x3_1 t177).f1), .int .i64 ((rd_T73 x3_1 t177).f2), .bool ((rd_T73 x3_1 t177).f3)] 73 (0, 0)) (by (with_reducible repeat (first | refine blk_drewN ?_ _ | refine blk_drew ?_ | refine blk_alloc ?_ _)); exact BK179.out) hg (Kd.R_away HO184.out (fun _ hk => hk.2))); have n2_ := Aside0.mk (hb); have n3_ := Aside0.mk ((show Kd.C k73 w90 (some ad178) y185.length y185 from by rw [Ny185.out]; exact Kd.C_take (m := (t177 : Int).toNat) ((Kd.R_reads' (Kd.R_after (ok := (fun k_ => k_ ≠ gb179)) (by (with_reducible repeat (first | apply Kd.R_alloc | apply Kd.R_drewN | apply Kd.R_drew)); exact HO_3.out) hg hat)).2.2) KL89.out)); have n4_ := Aside0.mk (ho); clear HO_3; clear BK179; clear HB; clear HR188; clear HO184; have HO_3 := n0_; have BK179 := n1_; have HB := n2_; have HR188 := n3_; have HO191 := n4_; clear n0_ n1_ n2_ n3_ n4_; clear ho hb hg hat; have q91 : ((ji82) : Int) ≤ ((x3_1.length : Int) : Int) := of_decide_eq_true (by first | (with_reducible assumption) | assumption); obtain ⟨i091, hi091, _, hsz91, _⟩ := info_parts info73; have hroom91 : x3_1.length ≤ co17 := (Kd.R_reads' HO_3.out).2.1; have hC91 : Kd.C k73 _ (some ad178) x3_1.length x3_1 := (Kd.R_reads' HO_3.out).2.2; have q091 : (0 : Int) ≤ ((ji82) : Int) := of_decide_eq_true (by first | (with_reducible assumption) | assumption); have hcut91 := cut_from (P := Try.prog) 44 73 .i64 Try.underlying44 hi091 4 hsz91 (some ad178) x3_1.length co17 (ji82) q091 q91; have hr91 := Kd.C_drop (m := ((ji82) : Int).toNat) (c := co17) hC91 (by omega) hroom91; obtain ⟨A91, hA91⟩ : ∃ A1, A1 = (if co17 = ((ji82) : Int).toNat then (some ad178) else ((some ad178) : Option Addr).map (·.add (((ji82) : Int).toNat * 4))) := ⟨_, rfl⟩; obtain ⟨c91, hc91⟩ : ∃ c1, c1 = co17 - ((ji82) : Int).toNat := ⟨_, rfl⟩; have hy91 : y192.length = x3_1.length - ((ji82) : Int).toNat := (by rw [Ny192.out, List.length_drop] <;> omega); rw [show (x3_1).drop ((ji82) : Int).toNat = y192 from Ny192.out.symm] at hr91; replace hr91 : Kd.C k73 _ A91 y192.length y192 := (by rw [hA91]; exact hr91); rw [← hy91, ← hA91, ← hc91] at hcut91; have HR195 := Aside0.mk hr91; have HC195 := Aside0.mk (show y192.length ≤ c91 from by rw [hy91, hc91]; exact Nat.sub_le_sub_right hroom91 _); clear hr91 hC91 hroom91 hi091 hsz91 hc91; have KY91 := Aside0.mk hy91; have KA91 := Aside0.mk hA91; clear hy91 hA91; have KL91 := Aside0.mk (show ((ji82) : Int).toNat ≤ x3_1.length from by omega); replace q91 := eq_true q91) | ((with_reducible refine gate_builtin (b := .append) (xs := #[.tmp 116, .tmp 120]) rfl ?_); (try (refine gate_guard (by rfl) ?_; dsimp only)); at_builtin; refine Kd.R_append_rows k73 (w0 := w) w.heap.size rfl (.tmp 116) (.tmp 120) 44 73 (.agg #[(.int .i64 0), (.int .i64 0), (.int .i64 0), (.bool false)]) 32 rfl Try.underlying44 info73 rfl (by decide) (by omega) v190 y189 y192 _ _ _ (fun k_ => some k_ ≠ (.slice (some ad178) x3_1.length co17 : Value).ownBlock ∧ k_ ≠ gb179) (fun _ => False) rfl rfl ?aO ?aR (fun _ _ h => h) (fun _ h => h.elim) ?aF ?aB ?aS ?aL ?_; (case aR => repeat (first | exact (by repeat (first | (with_reducible exact HR195.out) | (with_reducible refine Kd.C_alloc ?_ _) | (with_reducible refine Kd.C_drewN ?_ _) | (with_reducible refine Kd.C_drew ?_) | exact HR195.out)) | (with_reducible refine Kd.C_alloc ?_ _) | (with_reducible refine Kd.C_drewN ?_ _) | (with_reducible refine Kd.C_drew ?_))); (case aB => exact (by repeat (first | (with_reducible first | exact HB.out | apply below_alloc | apply pw_below_drewN | apply below_drew1 | refine below_set ?_ GE179.out) | exact HB.out))); (case aF => exact (fun k_ hk => ⟨Kd.fresh' (Kd.R_lt (by (with_reducible repeat (first | apply Kd.R_alloc | apply Kd.R_drewN | apply Kd.R_drew)); exact HO_3.out)) k_ hk, Kd.freshB (g := gb179) (o := .cells #[.int .i64 ((rd_T73 x3_1 t177).f0), .int .i64 ((rd_T73 x3_1 t177).f1), .int .i64 ((rd_T73 x3_1 t177).f2), .bool ((rd_T73 x3_1 t177).f3)] 73 (0, 0)) (by (with_reducible repeat (first | refine blk_drewN ?_ _ | refine blk_drew ?_ | refine blk_alloc ?_ _)); exact BK179.out) k_ hk⟩)); (case aO => exact (by (with_reducible repeat (first | apply Kd.R_alloc | apply Kd.R_drewN | apply Kd.R_drew)); exact HO191.out)); (case aS => exact (below_size (by repeat (first | (with_reducible first | exact HB.out | apply below_alloc | apply pw_below_drewN | apply below_drew1 | refine below_set ?_ GE179.out) | exact HB.out)))); (case aL => have := LMc85.out; omega); intro v197 w92 ho hb hg hat; rw [← Ny196.out] at ho; have n0_ := Aside0.mk (Kd.R_after (ok := (fun k_ => k_ ≠ gb179)) (by (with_reducible repeat (first | apply Kd.R_alloc | apply Kd.R_drewN | apply Kd.R_drew)); exact HO_3.out) hg hat); have n1_ := Aside0.mk (blk_grown (g := gb179) (o := .cells #[.int .i64 ((rd_T73 x3_1 t177).f0), .int .i64 ((rd_T73 x3_1 t177).f1), .int .i64 ((rd_T73 x3_1 t177).f2), .bool ((rd_T73 x3_1 t177).f3)] 73 (0, 0)) (by (with_reducible repeat (first | refine blk_drewN ?_ _ | refine blk_drew ?_ | refine blk_alloc ?_ _)); exact BK179.out) hg (Kd.R_away HO191.out (fun _ hk => hk.2))); have n2_ := Aside0.mk (hb); have n3_ := Aside0.mk ((show Kd.C k73 w92 (some ad178) y185.length y185 from by rw [Ny185.out]; exact Kd.C_take (m := (t177 : Int).toNat) ((Kd.R_reads' (Kd.R_after (ok := (fun k_ => k_ ≠ gb179)) (by (with_reducible repeat (first | apply Kd.R_alloc | apply Kd.R_drewN | apply Kd.R_drew)); exact HO_3.out) hg hat)).2.2) KL89.out)); have n4_ := Aside0.mk ((show Kd.C k73 w92 A91 y192.length y192 from by rw [Ny192.out, KA91.out]; exact Kd.C_drop (m := ((ji82) : Int).toNat) (c := co17) ((Kd.R_reads' (Kd.R_after (ok := (fun k_ => k_ ≠ gb179)) (by (with_reducible repeat (first | apply Kd.R_alloc | apply Kd.R_drewN | apply Kd.R_drew)); exact HO_3.out) hg hat)).2.2) KL91.out ((Kd.R_reads' (Kd.R_after (ok := (fun k_ => k_ ≠ gb179)) (by (with_reducible repeat (first | apply Kd.R_alloc | apply Kd.R_drewN | apply Kd.R_drew)); exact HO_3.out) hg hat)).2.1))); have n5_ := Aside0.mk (ho); clear HO_3; clear BK179; clear HB; clear HR188; clear HR195; clear HO191; have HO_3 := n0_; have BK179 := n1_; have HB := n2_; have HR188 := n3_; have HR195 := n4_; have HO198 := n5_; clear n0_ n1_ n2_ n3_ n4_ n5_; clear ho hb hg hat))
                                            (try rw [show (#[.int .i64 (rd_T73 x3_1 t177).f0, .int .i64 (rd_T73 x3_1 t177).f1, .int .i64 (rd_T73 x3_1 t177).f2, .bool true] : Array Value) = #[.int .i64 (rd_T73 x3_1 t177).f0, .int .i64 (rd_T73 x3_1 t177).f1, .int .i64 (rd_T73 x3_1 t177).f2, .bool (rd_T73 x3_1 t177).f3] from by rw [(by assumption : (rd_T73 x3_1 t177).f3 = true)]])
                                            (try rw [show (#[.int .i64 (rd_T73 x3_1 t177).f0, .int .i64 (rd_T73 x3_1 t177).f1, .int .i64 (rd_T73 x3_1 t177).f2, .bool false] : Array Value) = #[.int .i64 (rd_T73 x3_1 t177).f0, .int .i64 (rd_T73 x3_1 t177).f1, .int .i64 (rd_T73 x3_1 t177).f2, .bool (rd_T73 x3_1 t177).f3] from by rw [(by assumption : (rd_T73 x3_1 t177).f3 = false)]])
                                            (try rw [show (#[.int .i64 (rd_T73 x3_1 t177).f0, .int .i64 (rd_T73 x3_1 t177).f1, .int .i64 (rd_T73 x3_1 t177).f2, .bool true] : Array Value) = #[.int .i64 (rd_T73 x3_1 t177).f0, .int .i64 (rd_T73 x3_1 t177).f1, .int .i64 (rd_T73 x3_1 t177).f2, .bool (rd_T73 x3_1 t177).f3] from by rw [(by assumption : (rd_T73 x3_1 t177).f3 = true)]])
                                            (try rw [show (#[.int .i64 (rd_T73 x3_1 t177).f0, .int .i64 (rd_T73 x3_1 t177).f1, .int .i64 (rd_T73 x3_1 t177).f2, .bool false] : Array Value) = #[.int .i64 (rd_T73 x3_1 t177).f0, .int .i64 (rd_T73 x3_1 t177).f1, .int .i64 (rd_T73 x3_1 t177).f2, .bool (rd_T73 x3_1 t177).f3] from by rw [(by assumption : (rd_T73 x3_1 t177).f3 = false)]])
                                            go_roundg k3
                                            case measure => have := HK1.out; have := HJ15.out; have := HK3.out; omega
                                            case rel => exact ⟨(y196), (((rd_T73 x3_1 t177).f1)), (by first | rfl | (simp; done) | (simp [*]; done)), H', ⟨by have := HK1.out; have := HJ15.out; have := HK3.out; omega⟩, ⟨by (with_reducible repeat (first | apply Kd.R_alloc | apply Kd.R_drewN | apply Kd.R_drew)); exact Kd.R_mono HO198.out (fun _ hk => trivial)⟩, ⟨by repeat (first | (with_reducible first | exact HB.out | apply below_alloc | apply pw_below_drewN | apply below_drew1 | refine below_set ?_ GE179.out) | exact HB.out)⟩⟩
                                          · rw [if_neg c85] at H
                                            exact absurd H (by simp)
                                        · rw [if_neg c84] at H
                                          exact absurd H (by simp)
                                      · rw [if_neg c83] at H
                                        exact absurd H (by simp)
                                    · rw [if_neg c81] at H
                                      exact absurd H (by simp)
                                  · rw [if_neg c80] at H
                                    exact absurd H (by simp)
                                · rw [if_neg c79] at H
                                  exact absurd H (by simp)
                      · rw [if_neg c26] at H
                        exact absurd H (by simp)
                    · rw [if_neg c25] at H
                      exact absurd H (by simp)
            · rw [if_neg c14] at H
              exact absurd H (by simp)
          · rw [if_neg c13] at H
            have c13b0 : decide (0 < (x3_1.length : Int)) = false := decide_eq_false c13
            have c13b1 : decide (0 < x3_1.length) = false := decide_eq_false (by omega)
            clear c13
            replace H := Option.bind_eq_some_iff.mp H
            obtain ⟨t170, A930, H⟩ := H
            replace H : (some (t170 == (-1))) = some r := H
            have A93 := Aside0.mk A930
            clear A930
            obtain rfl := Option.some.inj H
            obtain ⟨Ao94, co94, eo94⟩ := Kd.R_slice HO_3.out
            subst eo94
            go_wp2_with (first | ((with_reducible refine gate_callee (f := 32) rfl ?_); refine goesL_ (some 123) rfl rfl Try.func32 (by kernel_rfl) rfl #[.slice Ao94 x3_1.length co94] rfl (by (try simp only [List.map_toArray, List.map_cons, List.map_nil]); first | done | rfl | (simp only [List.length_drop, List.length_take]; rfl)) ?_; (with_reducible refine (impl_NextStream.calls k1 _ _ x3_1 t170 _ ?side1 ?side2 A93.out).mono ?_); (case side1 => repeat (first | exact (Kd.R_reads' HO_3.out).2.2 | (with_reducible refine Kd.C_alloc ?_ _) | (with_reducible refine Kd.C_drewN ?_ _) | (with_reducible refine Kd.C_drew ?_))); (case side2 => exact (Kd.R_reads' HO_3.out).2.1); rintro e w95 ⟨rfl, hb⟩; refine ⟨_, rfl, ?_⟩; have n0_ := Aside0.mk (Kd.R_below (by (with_reducible repeat (first | apply Kd.R_alloc | apply Kd.R_drewN | apply Kd.R_drew)); exact HO_3.out) hb); have n1_ := Aside0.mk (below_step (by repeat (first | (with_reducible first | exact HB.out | apply below_alloc | apply pw_below_drewN | apply below_drew1) | exact HB.out)) hb); clear HO_3; clear HB; have HO_3 := n0_; have HB := n1_; clear n0_ n1_; (try clear hb); (try clear hb2); (try clear hk); (try clear hi)))
            go_ret
            exact ⟨by first | rfl | (simp [errW_none, errW_some] <;> rfl) | (simp [*, errW_none, errW_some] <;> rfl), by repeat (first | (with_reducible first | exact HB.out | apply below_alloc | apply pw_below_drewN | apply below_drew1) | exact HB.out)⟩

/-- THE ONE PURE STATEMENT of laws_FnNext: yours. -/
def laws_FnNext.Pure : Prop := ∀ (l0 : List Int), l0.length ≤ maxLen → l0.length * 1 ≤ 140737488351232 → (∀ x ∈ l0, (Lit.int .u8 x).wf = true) → ∃ k, laws_FnNext.f k l0 = some true
theorem laws_FnNext.walk (P : laws_FnNext.Pure) (a0 : Option Addr) (len0 cap0 : Nat) (z0 : List Int) (w : World) (w0 : (a0 = none ∧ len0 = 0 ∧ cap0 = 0 ∧ z0 = []) ∨ ∃ x, a0 = some x ∧ len0 ≤ cap0 ∧ cap0 ≤ maxLen ∧ z0.length = cap0 ∧ (∀ i, i < z0.length → w.cell? (x.add i) = some (.int .u8 (z0.getD i 0))) ∧ ∀ n ∈ z0, (Lit.int .u8 n).wf = true) (y0 : len0 * 1 ≤ 140737488351232) :
    Calls Try.prog 11 #[.slice a0 len0 cap0] w fun e w' => e = .returned (.bool true) ∧ Below w.heap.size w w' := by
  obtain ⟨l0, rfl, hr0, hm0, hw0, hc0⟩ := ReadsInt.ofRowC w0
  obtain ⟨k, h⟩ := P l0 hm0 y0 hw0
  refine (laws_FnNext.calls k _ _ l0 true w (Kd.C_of_reads (d := (0 : Int)) (h1 := fun _ => rfl) hr0) hc0 h).mono ?_
  rintro e w' ⟨rfl, hd⟩
  exact ⟨rfl, hd⟩

end Go.Proofs.Ytffmebjogdemhaa.PFnNext
