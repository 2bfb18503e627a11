-- Written by a program of this repo (xprint.py) out of the translation; Lean checks it. SHRUNK
import Derived.Test.YtolpikjbdfpdcaaPFnSealedx0
import Derived.Test.YtolpikjbdfpdcaaPFnSealedx5
namespace Go.Proofs.Ytolpikjbdfpdcaa.PFnSealed
open Go.RowKit Go.Proofs.YtolpikjbdfpdcaaW.PrintWords Go.Proofs.YtolpikjbdfpdcaaW.PrintLast Go.Proofs.YtolpikjbdfpdcaaW.PrintMore
attribute [local go_sem] max2_int min2_int max_two min_two max_three min_three max_four min_four   -- for this text's walks alone
set_option linter.unusedVariables false
set_option linter.unusedSimpArgs false

/-! ### impl_nonceOf: function 89 -/
def impl_nonceOf.l0 : Nat → List Int → Int → Int → List Int → List Int → List Int → List Int → Option (List Int)
  | 0, _, _, _, _, _, _, _ => none
  | k + 1, x5, x10, x11, x461000, x461001, x461002, x461003 => if x11 < x10 then (if 0 ≤ x11 then (if x11 < (x5.length : Int) then (if x11 < (x461002.length : Int) then (impl_nonceOf.l0 k (x5.set (x11 : Int).toNat (Go.bits .xor .u8 (rd x5 x11) (rd x461002 x11))) x10 (wrap64 (x11 + 1)) x461000 x461001 x461002 x461003) else (none)) else (none)) else (none)) else (some x5)
def impl_nonceOf.f (k : Nat) (l0_0 : List Int) (l0_1 : List Int) (l0_2 : List Int) (l0_3 : List Int) (a1 : Int) : Option (List Int) := (impl_fixed.f k ([] : List Int) a1 8).bind fun t461 => (impl_nonceOf.l0 k t461 (t461.length : Int) 0 l0_0 l0_1 l0_2 l0_3)
theorem impl_nonceOf.mono_l : ∀ k, (∀ y0 y1 y2 y3 y4 y5 y6, LeO (impl_nonceOf.l0 k y0 y1 y2 y3 y4 y5 y6) (impl_nonceOf.l0 (k + 1) y0 y1 y2 y3 y4 y5 y6))
  | 0 => fun _ _ _ _ _ _ _ r h => by simp [impl_nonceOf.l0] at h
  | k + 1 => by
    have ih0 := impl_nonceOf.mono_l k
    · intro y0 y1 y2 y3 y4 y5 y6
      unfold impl_nonceOf.l0
      repeat' first
      | (with_reducible exact ih0 _ _ _ _ _ _ _)
      | (with_reducible exact impl_fixed.mono _ _ _ _)
      | (with_reducible exact LeO.refl _)
      | (with_reducible exact LeO.none _)
      | (with_reducible refine LeO.ite ?_ ?_)
      | (with_reducible refine LeO.bind ?_ (fun _ => ?_))
      | exact ih0 _ _ _ _ _ _ _
      | exact impl_fixed.mono _ _ _ _
      | exact LeO.none _
      | refine LeO.ite ?_ ?_
      | refine LeO.bind ?_ (fun _ => ?_)
theorem impl_nonceOf.mono : ∀ a0 a1 a2 a3 a4 k, LeO (impl_nonceOf.f k a0 a1 a2 a3 a4) (impl_nonceOf.f (k + 1) a0 a1 a2 a3 a4) := by
  intro a0 a1 a2 a3 a4 k
  have ih0 := impl_nonceOf.mono_l k
  unfold impl_nonceOf.f
  repeat' first
      | (with_reducible exact ih0 _ _ _ _ _ _ _)
      | (with_reducible exact impl_fixed.mono _ _ _ _)
      | (with_reducible exact LeO.refl _)
      | (with_reducible exact LeO.none _)
      | (with_reducible refine LeO.ite ?_ ?_)
      | (with_reducible refine LeO.bind ?_ (fun _ => ?_))
      | exact ih0 _ _ _ _ _ _ _
      | exact impl_fixed.mono _ _ _ _
      | exact LeO.none _
      | refine LeO.ite ?_ ?_
      | refine LeO.bind ?_ (fun _ => ?_)
def impl_nonceOf.T5 : Bool × List (List Nat × List Nat) := (true, [([], []), ([], []), ([0, 1], [0, 1]), ([2], [2]), ([], []), ([4], [4]), ([], []), ([5, 6], [5, 6]), ([7], [7]), ([3, 8], [3, 8]), ([0, 1, 0, 1, 2, 3, 4, 5, 6, 7, 8, 9], [0, 1]), ([10, 9, 0, 1, 2, 3, 4, 5, 6, 7, 8, 9], [9, 10])])
def impl_nonceOf.B5 : List Nat := [0, 0, 3, 7, 0, 16, 0, 112, 240, 511, 1023, 2047]
theorem impl_nonceOf.tab5 : rtab .any (opsOf Try.f89 5) = impl_nonceOf.T5 := by kernel_rfl
theorem impl_nonceOf.bits5 : waitsOk impl_nonceOf.T5.2 impl_nonceOf.B5 = true := by kernel_rfl
set_option maxHeartbeats 8000000 in
set_option maxRecDepth 100000 in
theorem impl_nonceOf.calls (k : Nat) (A0_0 : Option Addr) (c0_0 : Nat) (l0_0 : List Int) (A0_1 : Option Addr) (c0_1 : Nat) (l0_1 : List Int) (A0_2 : Option Addr) (c0_2 : Nat) (l0_2 : List Int) (A0_3 : Option Addr) (c0_3 : Nat) (l0_3 : List Int) (a1 : Int) (r : List Int) (w : World) (hr0_0 : Kd.C (Kd.int .u8) w A0_0 l0_0.length l0_0) (hc0_0 : l0_0.length ≤ c0_0) (hr0_1 : Kd.C (Kd.int .u8) w A0_1 l0_1.length l0_1) (hc0_1 : l0_1.length ≤ c0_1) (hr0_2 : Kd.C (Kd.int .u8) w A0_2 l0_2.length l0_2) (hc0_2 : l0_2.length ≤ c0_2) (hr0_3 : Kd.C (Kd.int .u8) w A0_3 l0_3.length l0_3) (hc0_3 : l0_3.length ≤ c0_3) (h : impl_nonceOf.f k l0_0 l0_1 l0_2 l0_3 a1 = some r) :
    Calls Try.prog 89 #[.agg #[.slice A0_0 l0_0.length c0_0, .slice A0_1 l0_1.length c0_1, .slice A0_2 l0_2.length c0_2, .slice A0_3 l0_3.length c0_3], .int .i64 a1] w fun e w' => ∃ v0_ : Value, e = .returned (v0_) ∧ Kd.R (Kd.int .u8) 5 w' w.heap.size (fun _ => True) v0_ r ∧ Below w.heap.size w w' := by
 have hu24 := Try.underlying24; have HR0_0 := Aside0.mk hr0_0; have HC0_0 := Aside0.mk hc0_0; clear hr0_0 hc0_0; have HR0_1 := Aside0.mk hr0_1; have HC0_1 := Aside0.mk hc0_1; clear hr0_1 hc0_1; have HR0_2 := Aside0.mk hr0_2; have HC0_2 := Aside0.mk hc0_2; clear hr0_2 hc0_2; have HR0_3 := Aside0.mk hr0_3; have HC0_3 := Aside0.mk hc0_3; clear hr0_3 hc0_3; have HB := am (Below.refl w.heap.size w); have H : ((impl_fixed.f k ([] : List Int) a1 8).bind fun t461 => (impl_nonceOf.l0 k t461 (t461.length : Int) 0 l0_0 l0_1 l0_2 l0_3)) = some r := h; clear h; replace H := Option.bind_eq_some_iff.mp H; obtain ⟨t461, A30, H⟩ := H; replace H : (impl_nonceOf.l0 k t461 (t461.length : Int) 0 l0_0 l0_1 l0_2 l0_3) = some r := H; have A3 := Aside0.mk A30; clear A30; have H' := Aside0.mk H; clear H; (go_enter Try.func89, Try.ntmps89); (go_wp2_with (first | ((with_reducible refine gate_dst (N := 2) rfl ?_); refine box_event ?hg (N := 2) ?hd (cs := #[.slice A0_0 l0_0.length c0_0, .slice A0_1 l0_1.length c0_1, .slice A0_2 l0_2.length c0_2, .slice A0_3 l0_3.length c0_3]) (t := 24) ?hr ?_; (case hd => rfl); (case hg => rfl); (case hr => first | (go_simp; done) | (go_simp; rfl)); intro gb460 hg w4 hbox hb; have BK460 := am (hbox); have GW460 := am ((by rw [hg]; exact (below_size (hq HB.out)) : w.heap.size ≤ gb460)); have GE460 := GW460; replace HB := am (below_step (hq HB.out) hb); clear hb hbox hg) | ((with_reducible refine gate_callee (f := 72) rfl ?_); refine goesL_ (some 8) rfl rfl Try.func72 (by kernel_rfl) rfl #[.slice none 0 0, .int .i64 a1, .int .i64 8] rfl (by (try simp only [List.map_toArray, List.map_cons, List.map_nil]); first | done | rfl | (simp only [List.length_drop, List.length_take]; rfl)) ?_; (refine (impl_fixed.calls k (fun k_ => some k_ = (.slice none 0 0 : Value).ownBlock) (.slice none 0 0) ([] : List Int) a1 8 t461 w _ ?side1 ?side2 A3.out).mono ?_); (case side1 => repeat (first | (with_reducible first | exact HB.out | apply below_alloc | apply pw_below_drewN | apply below_drew1 | refine below_set ?_ GE460.out) | exact HB.out)); (case side2 => exact Kd.R_nil _ _ _ _ _); rintro e w5 ⟨v462, rfl, ho0, hb, hkp⟩; refine ⟨_, rfl, ?_⟩; have HO463 := am (Kd.R_mono (ok' := fun k_ => True) ho0 (fun k_ hk_ => trivial)); replace BK460 := am (blk_kept (bq BK460.out) hkp (fun hs_ => (fun e_ => by simp [Value.ownBlock] at e_) hs_)); replace HB := am (hb); (try clear hb); (try clear hkp); (try clear ho0); obtain ⟨Ao6, co6, eo6⟩ := Kd.R_slice HO463.out; subst eo6))); (go_loopg [11] k (fun kq v11 w' => ∃ (x5_1 : List Int) (x11_1 : Int), v11 = .int .i64 x11_1 ∧ Aside0 (impl_nonceOf.l0 kq x5_1 (t461.length : Int) x11_1 l0_0 l0_1 l0_2 l0_3 = some r) ∧ Aside0 (kq ≤ k) ∧ Aside0 (Kd.R (Kd.int .u8) 5 w' w.heap.size (fun _ => True) (.slice Ao6 t461.length co6) x5_1) ∧ Aside0 (w'.heap[gb460]? = some (.cells #[(.slice A0_0 l0_0.length c0_0), (.slice A0_1 l0_1.length c0_1), (.slice A0_2 l0_2.length c0_2), (.slice A0_3 l0_3.length c0_3)] 24 (0, 0))) ∧ Aside0 (Below w.heap.size w w')))
 case atStart => exact ⟨(t461), (0), (by first | rfl | (simp; done) | (simp [*]; done)), H', ⟨Nat.le_refl _⟩, ⟨by (with_reducible repeat (first | apply Kd.R_alloc | apply Kd.R_drewN | apply Kd.R_drew)); exact HO463.out⟩, ⟨by (with_reducible repeat (first | refine blk_drewN ?_ _ | refine blk_drew ?_ | refine blk_alloc ?_ _)); exact BK460.out⟩, ⟨by repeat (with_reducible first | exact hq HB.out | refine bs ?_ GE460.out | refine us ?_)⟩⟩
 case round =>
  clear H'; (try clear p2); obtain ⟨x5_1, x11_1, rfl, HA, HK1, HO_5, BK460, HB⟩ := hrel; have hl5_1 := (Kd.R_reads' HO_5.out).1; rw [hl5_1] at HO_5; (try simp only [hl5_1]); (try simp only [hl5_1] at BK460)
  cases gk with
  | zero => exact absurd HA.out (by simp [impl_nonceOf.l0])
  | succ k1 =>
   have H := HA.out; clear HA; simp only [impl_nonceOf.l0] at H; by_cases c7 : x11_1 < (t461.length : Int)
   ·rw [if_pos c7] at H; have c7b0 : decide (x11_1 < (t461.length : Int)) = true := decide_eq_true c7; clear c7; by_cases c8 : 0 ≤ x11_1
    ·rw [if_pos c8] at H; have c8b0 : decide (0 ≤ x11_1) = true := decide_eq_true c8; clear c8; by_cases c9 : x11_1 < (x5_1.length : Int)
     ·rw [if_pos c9] at H; have c9b0 : decide (x11_1 < (x5_1.length : Int)) = true := decide_eq_true c9; clear c9; by_cases c10 : x11_1 < (l0_2.length : Int)
      ·rw [if_pos c10] at H; have c10b0 : decide (x11_1 < (l0_2.length : Int)) = true := decide_eq_true c10; clear c10; obtain ⟨y466, hy466⟩ : ∃ y_ : List Int, y_ = (x5_1.set (x11_1 : Int).toNat (Go.bits .xor .u8 (rd x5_1 x11_1) (rd l0_2 x11_1))) := ⟨_, rfl⟩; (replace H : (impl_nonceOf.l0 k1 y466 (t461.length : Int) (wrap64 (x11_1 + 1)) l0_0 l0_1 l0_2 l0_3) = some r := by first | (rw [hy466]; with_reducible exact H) | (have H2_ := (Option.bind_some _ _).symm.trans H; rw [hy466]; with_reducible exact H2_) | (have H2_ := (Option.bind_some _ _).symm.trans H; with_reducible exact H2_) | with_reducible exact H | (rw [hy466]; exact H) | exact H); have Ny466 := Aside0.mk hy466; clear hy466; have H' := Aside0.mk H; clear H; (try go_wp2); replace HO_5 := am (Kd.R_drew HO_5.out); replace BK460 := am (blk_drew BK460.out); replace HB := am (below_drew1 HB.out); have p464 : 0 ≤ (x11_1 : Int) := of_decide_eq_true (by first | (with_reducible assumption) | assumption); have q464 : x11_1 < (x5_1.length : Int) := of_decide_eq_true (by first | (with_reducible assumption) | assumption); obtain ⟨ad464, e464, hx464_0⟩ := Kd.at_int (Kd.R_reads' HO_5.out).2.2 x11_1 p464 q464; (cases e464); replace p464 := eq_true p464; replace q464 := eq_true q464; have p465 : 0 ≤ (x11_1 : Int) := of_decide_eq_true (by first | (with_reducible assumption) | assumption); have q465 : x11_1 < (l0_2.length : Int) := of_decide_eq_true (by first | (with_reducible assumption) | assumption); obtain ⟨ad465, e465, hx465_0⟩ := Kd.at_int HR0_2.out x11_1 p465 q465; have hw465_0 := hx465_0; (cases e465); replace hx465_0 := (HB.out.cell (World.block_lt_of_cell? w _ hx465_0)).trans hx465_0; replace p465 := eq_true p465; replace q465 := eq_true q465; have p11 : 0 ≤ (x11_1 : Int) := of_decide_eq_true (by first | (with_reducible assumption) | assumption); have q11 : (x11_1 : Int) < ((x5_1.length : Int) : Int) := of_decide_eq_true (by first | (with_reducible assumption) | assumption); obtain ⟨go11, co11, eo11, gb11, gl11, cl11, HG11⟩ := Kd.R_form HO_5.out (by omega); (first | cases eo11 | (injection eo11 with ea_ en_ ec_; (first | subst ea_ | (injection ea_ with ea_; subst ea_)); subst ec_; clear en_)); have GB11 := Aside0.mk gb11; have GG11 := Aside0.mk HG11; clear gb11 gl11 HG11; (first | simp only [add_plain] at hx464_0 | skip); obtain ⟨hx11_0, hf11_0⟩ := Kd.R_celln 0 HO_5.out (x11_1 : Int) p11 q11; replace p11 := eq_true p11; replace q11 := eq_true q11; have HP13 := Kd.R_putn HO_5.out (x11_1 : Int) (Go.bits .xor .u8 (rd x5_1 x11_1) (rd l0_2 x11_1)); rw [← Ny466.out] at HP13; have HQ13 := Aside0.mk HP13; clear HP13; refine start_ (n := 12) (S := fun w' => w'.cell? ⟨gb460, 0, none⟩ = some (.slice A0_0 l0_0.length c0_0) ∧ w'.cell? ⟨gb460, 1, none⟩ = some (.slice A0_1 l0_1.length c0_1) ∧ w'.cell? ⟨gb460, 2, none⟩ = some (.slice (some ad465) l0_2.length c0_2) ∧ w'.cell? ⟨gb460, 3, none⟩ = some (.slice A0_3 l0_3.length c0_3) ∧ w'.cell? ⟨go11, (x11_1).toNat, none⟩ = some (.int .u8 (rd x5_1 x11_1)) ∧ w'.cell? (ad465.add (x11_1).toNat) = some (.int .u8 (rd l0_2 x11_1))) (ds := [11]) #[false, false, false, false, false, false, false, false, false, false, false, false] (by kernel_rfl) rfl rfl ⟨bc BK460 0, bc BK460 1, bc BK460 2, bc BK460 3, hx464_0, ((HB.out.cell (World.block_lt_of_cell? w _ hw465_0)).trans hw465_0)⟩ (fun hHeld => ?_); refine with_tabW impl_nonceOf.tab5 impl_nonceOf.bits5 (fun HT_ HW_ => ?_); generalize wr.drew = w12 at HO_5 BK460 HB GG11 HQ13 hf11_0 hx11_0 hx464_0 hx465_0 hHeld ⊢; refine pure_ (i := 0) (N := some 14) (v := ?_) (a' := ?_) #[true, false, false, false, false, false, false, false, false, false, false, false] rfl rfl (any_of HT_.out (by kernel_rfl)) (fun _ _ _ h => h) (Or.inl ⟨by rfl, ?_⟩) ?_ ?_; rotate_left
       ·intro w'; (go_simp); (with_reducible rfl)
       rotate_left
       ·simp only [Act.put, sA, sB, sC, i64_w, i32_w]; rfl
       refine pure_ (i := 1) (N := some 15) (v := ?_) (a' := ?_) #[true, true, false, false, false, false, false, false, false, false, false, false] rfl rfl (any_of HT_.out (by kernel_rfl)) (fun _ _ _ h => h) (Or.inl ⟨by rfl, ?_⟩) ?_ ?_; rotate_left
       ·intro w'; (go_simp); (with_reducible rfl)
       rotate_left
       ·simp only [Act.put, sA, sB, sC, i64_w, i32_w]; rfl
       refine pure_ (i := 2) (N := some 16) (v := ?_) (a' := ?_) #[true, true, true, false, false, false, false, false, false, false, false, false] rfl rfl (any_of HT_.out (by kernel_rfl)) (fun _ _ _ h => h) (Or.inl ⟨by rfl, ?_⟩) ?_ ?_; rotate_left
       ·intro w'; (go_simp); (with_reducible rfl)
       rotate_left
       ·simp only [Act.put, sA, sB, sC, i64_w, i32_w]; rfl
       refine pure_ (i := 4) (N := some 18) (v := ?_) (a' := ?_) #[true, true, true, false, true, false, false, false, false, false, false, false] rfl rfl (any_of HT_.out (by kernel_rfl)) (fun _ _ _ h => h) (Or.inl ⟨by rfl, ?_⟩) ?_ ?_; rotate_left
       ·intro w'; (go_simp); (with_reducible rfl)
       rotate_left
       ·simp only [Act.put, sA, sB, sC, i64_w, i32_w]; rfl
       refine pure_ (i := 6) (N := some 20) (v := ?_) (a' := ?_) #[true, true, true, false, true, false, true, false, false, false, false, false] rfl rfl (any_of HT_.out (by kernel_rfl)) (fun _ _ _ h => h) (Or.inl ⟨by rfl, ?_⟩) ?_ ?_; rotate_left
       ·intro w'; (go_simp); (with_reducible rfl)
       rotate_left
       ·simp only [Act.put, sA, sB, sC, i64_w, i32_w]; rfl
       refine take_ (i := 3) (N := some 17) (v := ?_) (a' := ?_) #[true, true, true, true, true, false, true, false, false, false, false, false] rfl rfl (take_ofW HT_.out HW_.out (by kernel_rfl)) (fun _ _ _ h => h) (Or.inl ⟨by rfl, ?_⟩) hHeld ?_ ?_; rotate_left
       ·rintro w' ⟨s0, s1, s2, s3, s4, s5⟩; (go_simp); (with_reducible rfl)
       rotate_left
       ·simp only [Act.put, sA, sB, sC, i64_w, i32_w]; rfl
       refine take_ (i := 5) (N := some 19) (v := ?_) (a' := ?_) #[true, true, true, true, true, true, true, false, false, false, false, false] rfl rfl (take_ofW HT_.out HW_.out (by kernel_rfl)) (fun _ _ _ h => h) (Or.inl ⟨by rfl, ?_⟩) hHeld ?_ ?_; rotate_left
       ·rintro w' ⟨s0, s1, s2, s3, s4, s5⟩; (go_simp); (with_reducible rfl)
       rotate_left
       ·simp only [Act.put, sA, sB, sC, i64_w, i32_w]; rfl
       refine pure_ (i := 7) (N := some 21) (v := ?_) (a' := ?_) #[true, true, true, true, true, true, true, true, false, false, false, false] rfl rfl (any_of HT_.out (by kernel_rfl)) (fun _ _ _ h => h) (Or.inl ⟨by rfl, ?_⟩) ?_ ?_; rotate_left
       ·intro w'; (go_simp); (with_reducible rfl)
       rotate_left
       ·simp only [Act.put, sA, sB, sC, i64_w, i32_w]; rfl
       refine take_ (i := 8) (N := some 22) (v := ?_) (a' := ?_) #[true, true, true, true, true, true, true, true, true, false, false, false] rfl rfl (take_ofW HT_.out HW_.out (by kernel_rfl)) (fun _ _ _ h => h) (Or.inl ⟨by rfl, ?_⟩) hHeld ?_ ?_; rotate_left
       ·rintro w' ⟨s0, s1, s2, s3, s4, s5⟩; (go_simp); (with_reducible rfl)
       rotate_left
       ·simp only [Act.put, sA, sB, sC, i64_w, i32_w]; rfl
       refine pure_ (i := 9) (N := some 23) (v := ?_) (a' := ?_) #[true, true, true, true, true, true, true, true, true, true, false, false] rfl rfl (any_of HT_.out (by kernel_rfl)) (fun _ _ _ h => h) (Or.inl ⟨by rfl, ?_⟩) ?_ ?_; rotate_left
       ·intro w'; (go_simp); (with_reducible rfl)
       rotate_left
       ·simp only [Act.put, sA, sB, sC, i64_w, i32_w]; rfl
       refine pure_ (i := 10) (N := some 24) (v := ?_) (a' := ?_) #[true, true, true, true, true, true, true, true, true, true, true, false] rfl rfl (any_of HT_.out (by kernel_rfl)) (fun _ _ _ h => h) (Or.inl ⟨by rfl, ?_⟩) ?_ ?_; rotate_left
       ·intro w'; (go_simp); (with_reducible rfl)
       rotate_left
       ·simp only [Act.put, sA, sB, sC, i64_w, i32_w]; rfl
       refine last_ (i := 11) (N := none) #[true, true, true, true, true, true, true, true, true, true, true, true] rfl rfl (one_of HT_.out (by kernel_rfl)) (by decide) (fun K hK => ?_); refine skip_ (w1 := ?_) (by rfl) rfl ?_ ?_; rotate_left
       ·(go_simp); rfl
       refine hK.out _ _ ?_; clear hK K; refine done_ (done_of HT_.out (by kernel_rfl)) ?_; (try go_wp2); (try simp only [← hl5_1]); (go_roundg k1)
       case measure => have := HK1.out; omega
       case rel => exact ⟨(y466), (wrap64 (x11_1 + 1)), (by first | rfl | (simp; done) | (simp [*]; done)), H', ⟨by have := HK1.out; omega⟩, ⟨by (try simp only [hl5_1]); (with_reducible repeat (first | apply Kd.R_alloc | apply Kd.R_drewN | apply Kd.R_drew)); exact HQ13.out⟩, ⟨by (try simp only [hl5_1]); (with_reducible repeat (first | refine blk_drewN ?_ _ | refine blk_drew ?_ | refine blk_alloc ?_ _)); refine blk_far ?_ (by have h_ := Kd.R_ne HO_5.out BK460.out (by decide); intro e_; exact h_ (by rw [e_]; rfl)) _; (with_reducible repeat (first | refine blk_drewN ?_ _ | refine blk_drew ?_ | refine blk_alloc ?_ _)); exact BK460.out⟩, ⟨by repeat (with_reducible first | exact hq HB.out | refine bs ?_ GB11.out | refine bs ?_ GE460.out | refine us ?_)⟩⟩
      ·rw [if_neg c10] at H; exact absurd H (by simp)
     ·rw [if_neg c9] at H; exact absurd H (by simp)
    ·rw [if_neg c8] at H; exact absurd H (by simp)
   ·rw [if_neg c7] at H; have c7b0 : decide (x11_1 < (t461.length : Int)) = false := decide_eq_false c7; clear c7; obtain rfl := Option.some.inj H; (go_wp2); (try any_goals (exfalso; simp only [decide_eq_false_iff_not, decide_eq_true_eq] at *; omega)); (go_ret); exact ⟨_, by first | rfl | (simp [errW_none, errW_some] <;> rfl) | (simp [*, errW_none, errW_some] <;> rfl), by (with_reducible repeat (first | apply Kd.R_alloc | apply Kd.R_drewN | apply Kd.R_drew)); exact HO_5.out, by repeat (with_reducible first | exact hq HB.out | refine bs ?_ GE460.out | refine us ?_)⟩

/-! ### bits_RotateLeft32: function 166 -/
def bits_RotateLeft32.f (a0 : Int) (a1 : Int) : Option (Int) := if 0 ≤ (Go.bits .and .u64 (IntKind.u64.wrap (a1)) 31) then (if 0 ≤ (IntKind.u64.wrap (32 - (Go.bits .and .u64 (IntKind.u64.wrap (a1)) 31))) then (some (Go.bits .or .u32 (shl .u32 a0 (Go.bits .and .u64 (IntKind.u64.wrap (a1)) 31)) (shr .u32 a0 (IntKind.u64.wrap (32 - (Go.bits .and .u64 (IntKind.u64.wrap (a1)) 31)))))) else (none)) else (none)
set_option maxHeartbeats 8000000 in
set_option maxRecDepth 100000 in
theorem bits_RotateLeft32.calls (a0 : Int) (a1 : Int) (r : Int) (w : World) (h : bits_RotateLeft32.f a0 a1 = some r) :
    Calls Try.prog 166 #[.int .u32 a0, .int .i64 a1] w fun e w' => e = .returned (.int .u32 r) ∧ Drawn0 w w' := by
 have H : (if 0 ≤ (Go.bits .and .u64 (IntKind.u64.wrap (a1)) 31) then (if 0 ≤ (IntKind.u64.wrap (32 - (Go.bits .and .u64 (IntKind.u64.wrap (a1)) 31))) then (some (Go.bits .or .u32 (shl .u32 a0 (Go.bits .and .u64 (IntKind.u64.wrap (a1)) 31)) (shr .u32 a0 (IntKind.u64.wrap (32 - (Go.bits .and .u64 (IntKind.u64.wrap (a1)) 31)))))) else (none)) else (none)) = some r := h; clear h; obtain ⟨ji3, hji3⟩ : ∃ j_ : Int, (Go.bits .and .u64 (IntKind.u64.wrap (a1)) 31) = j_ := ⟨_, rfl⟩; (replace H : (if 0 ≤ (ji3) then (if 0 ≤ (IntKind.u64.wrap (32 - (ji3))) then (some (Go.bits .or .u32 (shl .u32 a0 (ji3)) (shr .u32 a0 (IntKind.u64.wrap (32 - (ji3)))))) else (none)) else (none)) = some r := by first | (rw [hji3] at H; exact H) | (simp only [hji3] at H ⊢; exact H)); by_cases c4 : 0 ≤ (ji3)
 ·rw [if_pos c4] at H; have c4b0 := eq_true c4; have c4b1 : decide (0 ≤ (ji3)) = true := decide_eq_true c4; clear c4; obtain ⟨ji5, hji5⟩ : ∃ j_ : Int, (shl .u32 a0 (ji3)) = j_ := ⟨_, rfl⟩; (replace H : (if 0 ≤ (IntKind.u64.wrap (32 - (ji3))) then (some (Go.bits .or .u32 (ji5) (shr .u32 a0 (IntKind.u64.wrap (32 - (ji3)))))) else (none)) = some r := by first | (rw [hji5] at H; exact H) | (simp only [hji5] at H ⊢; exact H)); have hji5_ : (IntKind.u32.wrap (a0 * 2 ^ min (ji3).toNat 32)) = ji5 := hji5; have hji5z : (ji3) ≤ 32 → (IntKind.u32.wrap (a0 * 2 ^ (ji3).toNat)) = ji5 := shl_small hji5; obtain ⟨ji6, hji6⟩ : ∃ j_ : Int, (IntKind.u64.wrap (32 - (ji3))) = j_ := ⟨_, rfl⟩; (replace H : (if 0 ≤ (ji6) then (some (Go.bits .or .u32 (ji5) (shr .u32 a0 (ji6)))) else (none)) = some r := by first | (rw [hji6] at H; exact H) | (simp only [hji6] at H ⊢; exact H)); by_cases c7 : 0 ≤ (ji6)
  ·rw [if_pos c7] at H; have c7b0 := eq_true c7; have c7b1 : decide (0 ≤ (ji6)) = true := decide_eq_true c7; clear c7; obtain ⟨ji8, hji8⟩ : ∃ j_ : Int, (shr .u32 a0 (ji6)) = j_ := ⟨_, rfl⟩; (replace H : (some (Go.bits .or .u32 (ji5) (ji8))) = some r := by first | (rw [hji8] at H; exact H) | (simp only [hji8] at H ⊢; exact H)); have hji8_ : (a0 / 2 ^ min (ji6).toNat 32) = ji8 := hji8; have hji8z : (ji6) ≤ 32 → (a0 / 2 ^ (ji6).toNat) = ji8 := shr_small hji8; obtain rfl := Option.some.inj H; (go_enter Try.func166, Try.ntmps166); (go_wp2); (go_ret); exact ⟨by first | rfl | (simp; done) | (simp only [← hji3, ← hji5, ← hji6, ← hji8] <;> (first | rfl | simp)) | (simp [*]; done), by repeat (first | exact Drawn0.refl _ | apply Drawn0.step)⟩
  ·rw [if_neg c7] at H; exact absurd H (by simp)
 ·rw [if_neg c4] at H; exact absurd H (by simp)

set_option maxHeartbeats 8000000 in
set_option maxRecDepth 100000 in
theorem bits_RotateLeft32.same (a0 : Int) (a1 : Int) (r : Int) (w : World) (h : bits_RotateLeft32.f a0 a1 = some r) :
    Calls Try.prog 166 #[.int .u32 a0, .int .i64 a1] w fun e w' => e = .returned (.int .u32 r) ∧ w' = w := by
  have H : (if 0 ≤ (Go.bits .and .u64 (IntKind.u64.wrap (a1)) 31) then (if 0 ≤ (IntKind.u64.wrap (32 - (Go.bits .and .u64 (IntKind.u64.wrap (a1)) 31))) then (some (Go.bits .or .u32 (shl .u32 a0 (Go.bits .and .u64 (IntKind.u64.wrap (a1)) 31)) (shr .u32 a0 (IntKind.u64.wrap (32 - (Go.bits .and .u64 (IntKind.u64.wrap (a1)) 31)))))) else (none)) else (none)) = some r := h
  clear h
  obtain ⟨ji3, hji3⟩ : ∃ j_ : Int, (Go.bits .and .u64 (IntKind.u64.wrap (a1)) 31) = j_ := ⟨_, rfl⟩
  replace H : (if 0 ≤ (ji3) then (if 0 ≤ (IntKind.u64.wrap (32 - (ji3))) then (some (Go.bits .or .u32 (shl .u32 a0 (ji3)) (shr .u32 a0 (IntKind.u64.wrap (32 - (ji3)))))) else (none)) else (none)) = some r := by first | (rw [hji3] at H; exact H) | (simp only [hji3] at H ⊢; exact H)
  by_cases c4 : 0 ≤ (ji3)
  · rw [if_pos c4] at H
    have c4b0 := eq_true c4
    have c4b1 : decide (0 ≤ (ji3)) = true := decide_eq_true c4
    clear c4
    obtain ⟨ji5, hji5⟩ : ∃ j_ : Int, (shl .u32 a0 (ji3)) = j_ := ⟨_, rfl⟩
    replace H : (if 0 ≤ (IntKind.u64.wrap (32 - (ji3))) then (some (Go.bits .or .u32 (ji5) (shr .u32 a0 (IntKind.u64.wrap (32 - (ji3)))))) else (none)) = some r := by first | (rw [hji5] at H; exact H) | (simp only [hji5] at H ⊢; exact H)
    have hji5_ : (IntKind.u32.wrap (a0 * 2 ^ min (ji3).toNat 32)) = ji5 := hji5
    have hji5z : (ji3) ≤ 32 → (IntKind.u32.wrap (a0 * 2 ^ (ji3).toNat)) = ji5 := shl_small hji5
    obtain ⟨ji6, hji6⟩ : ∃ j_ : Int, (IntKind.u64.wrap (32 - (ji3))) = j_ := ⟨_, rfl⟩
    replace H : (if 0 ≤ (ji6) then (some (Go.bits .or .u32 (ji5) (shr .u32 a0 (ji6)))) else (none)) = some r := by first | (rw [hji6] at H; exact H) | (simp only [hji6] at H ⊢; exact H)
    by_cases c7 : 0 ≤ (ji6)
    · rw [if_pos c7] at H
      have c7b0 := eq_true c7
      have c7b1 : decide (0 ≤ (ji6)) = true := decide_eq_true c7
      clear c7
      obtain ⟨ji8, hji8⟩ : ∃ j_ : Int, (shr .u32 a0 (ji6)) = j_ := ⟨_, rfl⟩
      replace H : (some (Go.bits .or .u32 (ji5) (ji8))) = some r := by first | (rw [hji8] at H; exact H) | (simp only [hji8] at H ⊢; exact H)
      have hji8_ : (a0 / 2 ^ min (ji6).toNat 32) = ji8 := hji8
      have hji8z : (ji6) ≤ 32 → (a0 / 2 ^ (ji6).toNat) = ji8 := shr_small hji8
      obtain rfl := Option.some.inj H
      go_enter Try.func166, Try.ntmps166
      go_wp2
      go_ret
      exact ⟨by first | rfl | (simp; done) | (simp only [← hji3, ← hji5, ← hji6, ← hji8] <;> (first | rfl | simp)) | (simp [*]; done), rfl⟩
    · rw [if_neg c7] at H
      exact absurd H (by simp)
  · rw [if_neg c4] at H
    exact absurd H (by simp)

/-- A state of type 157 at block g of W; what its slices lead to came in by w0. -/
def IsS157 (w0 W : World) (g : Nat) (f0 : Int) (f1 : Int) (f2 : Int) (f3 : Int) : Prop := W.heap[g]? = some (.cells #[.int .u32 f0, .int .u32 f1, .int .u32 f2, .int .u32 f3] 157 (0, 0)) ∧ w0.heap.size ≤ g
theorem IsS157.grown {w0 W : World} {g : Nat} {f0 : Int} {f1 : Int} {f2 : Int} {f3 : Int} {W1 : World} {row : Option Nat} (h : IsS157 w0 W g f0 f1 f2 f3) (hw : W.grownBy W1 row) (hne : some g ≠ row) : IsS157 w0 W1 g f0 f1 f2 f3 := by
  obtain ⟨hb, hg⟩ := h
  exact ⟨blk_grown hb hw hne, hg⟩
theorem IsS157.own_neN {w0 W : World} {g : Nat} {f0 : Int} {f1 : Int} {f2 : Int} {f3 : Int} {α : Type} {d : Kd α} {e : Nat} {base : Nat} {ok : Nat → Prop} {v : Value} {xs : List α} (h : IsS157 w0 W g f0 f1 f2 f3) (ho : Kd.N d e W base ok v xs) (ht : e ≠ 157) : some g ≠ v.ownBlock := by
  obtain ⟨hb, hg⟩ := h
  exact Kd.N_ne ho hb ht
theorem IsS157.fresh {w0 W : World} {g : Nat} {f0 : Int} {f1 : Int} {f2 : Int} {f3 : Int} (h : IsS157 w0 W g f0 f1 f2 f3) : ∀ k, W.heap.size ≤ k → k ≠ g := by
  obtain ⟨hb, hg⟩ := h
  exact Kd.freshB hb
theorem IsS157.kept {w0 W : World} {g : Nat} {f0 : Int} {f1 : Int} {f2 : Int} {f3 : Int} {W1 : World} {S : Nat → Prop} (h : IsS157 w0 W g f0 f1 f2 f3) (hk : Kept W W1 S) (hne : ¬ S g) : IsS157 w0 W1 g f0 f1 f2 f3 := by
  obtain ⟨hb, hg⟩ := h
  exact ⟨blk_kept hb hk hne, hg⟩
theorem IsS157.below {w0 W : World} {g : Nat} {f0 : Int} {f1 : Int} {f2 : Int} {f3 : Int} {W1 : World} (h : IsS157 w0 W g f0 f1 f2 f3) (hw : Below W.heap.size W W1) : IsS157 w0 W1 g f0 f1 f2 f3 := h.grown (grown_of_below hw none) (by simp)
theorem IsS157.alloc {w0 W : World} {g : Nat} {f0 : Int} {f1 : Int} {f2 : Int} {f3 : Int} (h : IsS157 w0 W g f0 f1 f2 f3) (o : Obj) : IsS157 w0 (W.alloc o) g f0 f1 f2 f3 := h.below (below_alloc (Below.refl _ _) o)
theorem IsS157.drewN {w0 W : World} {g : Nat} {f0 : Int} {f1 : Int} {f2 : Int} {f3 : Int} (h : IsS157 w0 W g f0 f1 f2 f3) (m : Nat) : IsS157 w0 (W.drewN m) g f0 f1 f2 f3 := h
theorem IsS157.drew {w0 W : World} {g : Nat} {f0 : Int} {f1 : Int} {f2 : Int} {f3 : Int} (h : IsS157 w0 W g f0 f1 f2 f3) : IsS157 w0 W.drew g f0 f1 f2 f3 := h
theorem IsS157.at_ {w0 W : World} {g : Nat} {f0 : Int} {f1 : Int} {f2 : Int} {f3 : Int} {w' : World} {m : Nat} (hq : W.drewN m = w') (h : IsS157 w0 W g f0 f1 f2 f3) : IsS157 w0 w' g f0 f1 f2 f3 := by subst hq; exact IsS157.drewN h m
theorem IsS157.apart {w0 W : World} {g : Nat} {f0 : Int} {f1 : Int} {f2 : Int} {f3 : Int} {α : Type} {d : Kd α} {e : Nat} {base : Nat} {ok : Nat → Prop} {v : Value} {xs : List α} (h : IsS157 w0 W g f0 f1 f2 f3) (ho : d.R e W base ok v xs) (ht : ∀ q, q ∈ e :: d.E → q ≠ 157) : d.R e W base (fun k => ok k ∧ k ≠ g) v xs := by
  obtain ⟨hb, hg⟩ := h
  exact Kd.R_types ho hb ht
theorem IsS157.own_ne {w0 W : World} {g : Nat} {f0 : Int} {f1 : Int} {f2 : Int} {f3 : Int} {α : Type} {d : Kd α} {e : Nat} {base : Nat} {ok : Nat → Prop} {v : Value} {xs : List α} (h : IsS157 w0 W g f0 f1 f2 f3) (ho : d.R e W base ok v xs) (ht : e ≠ 157) : some g ≠ v.ownBlock := by
  obtain ⟨hb, hg⟩ := h
  exact Kd.R_ne ho hb ht
theorem IsS157.apartQ {w0 W : World} {g : Nat} {f0 : Int} {f1 : Int} {f2 : Int} {f3 : Int} {α : Type} {d : Kd α} {e : Nat} {base : Nat} {ok : Nat → Prop} {v : Value} {xs : List α} (h : IsS157 w0 W g f0 f1 f2 f3) (ho : d.Q e W base ok v xs) (ht : ∀ q, q ∈ e :: d.E → q ≠ 157) : d.Q e W base (fun k => ok k ∧ k ≠ g) v xs := by
  obtain ⟨hb, hg⟩ := h
  exact Kd.Q_types ho hb ht
theorem IsS157.own_neQ {w0 W : World} {g : Nat} {f0 : Int} {f1 : Int} {f2 : Int} {f3 : Int} {α : Type} {d : Kd α} {e : Nat} {base : Nat} {ok : Nat → Prop} {v : Value} {xs : List α} (h : IsS157 w0 W g f0 f1 f2 f3) (ho : d.Q e W base ok v xs) (ht : e ≠ 157) : some g ≠ v.ownBlock := by
  obtain ⟨hb, hg⟩ := h
  exact Kd.Q_ne ho hb ht
theorem IsS157.apartS {w0 W : World} {g : Nat} {f0 : Int} {f1 : Int} {f2 : Int} {f3 : Int} {α : Type} {d : Kd α} {e : Nat} {base : Nat} {ok : Nat → Prop} {v : Value} {xs : List α} (h : IsS157 w0 W g f0 f1 f2 f3) (ho : d.S e W base ok v xs) (ht : ∀ q, q ∈ e :: d.E → q ≠ 157) : d.S e W base (fun k => ok k ∧ k ≠ g) v xs := by
  obtain ⟨hb, hg⟩ := h
  exact Kd.S_types ho hb ht
theorem IsS157.own_neS {w0 W : World} {g : Nat} {f0 : Int} {f1 : Int} {f2 : Int} {f3 : Int} {α : Type} {d : Kd α} {e : Nat} {base : Nat} {ok : Nat → Prop} {v : Value} {xs : List α} (h : IsS157 w0 W g f0 f1 f2 f3) (ho : d.S e W base ok v xs) (ht : e ≠ 157) : some g ≠ v.ownBlock := by
  obtain ⟨hb, hg⟩ := h
  exact Kd.S_ne ho hb ht
theorem IsS157.lt {w0 W : World} {g : Nat} {f0 : Int} {f1 : Int} {f2 : Int} {f3 : Int} (h : IsS157 w0 W g f0 f1 f2 f3) : g < W.heap.size := by
  obtain ⟨hb, hg⟩ := h
  exact blk_lt hb
theorem IsS157.ge {w0 W : World} {g : Nat} {f0 : Int} {f1 : Int} {f2 : Int} {f3 : Int} (h : IsS157 w0 W g f0 f1 f2 f3) : w0.heap.size ≤ g := by
  obtain ⟨hb, hg⟩ := h
  exact hg
theorem IsS157.ne_blk {w0 W : World} {g : Nat} {f0 : Int} {f1 : Int} {f2 : Int} {f3 : Int} {a : Nat} {cs : Array Value} {t : TypeId} {fr : Nat × Nat} (h : IsS157 w0 W g f0 f1 f2 f3) (hb2 : W.heap[a]? = some (.cells cs t fr)) (ht : t ≠ 157) : g ≠ a := by
  obtain ⟨hb, hg⟩ := h
  rintro rfl
  rw [hb] at hb2
  injection hb2 with hb2
  injection hb2 with _ ht2
  exact ht ht2.symm
theorem IsS157.far {w0 W : World} {g : Nat} {f0 : Int} {f1 : Int} {f2 : Int} {f3 : Int} {p : Addr} (h : IsS157 w0 W g f0 f1 f2 f3) (hne : g ≠ p.block) (u : Value) : IsS157 w0 (W.setCell p u) g f0 f1 f2 f3 := by
  obtain ⟨hb, hg⟩ := h
  exact ⟨blk_far hb hne u, hg⟩
theorem cellS157_0 {W : World} {g : Nat} {f0 : Int} {f1 : Int} {f2 : Int} {f3 : Int} (h : W.heap[g]? = some (.cells #[.int .u32 f0, .int .u32 f1, .int .u32 f2, .int .u32 f3] 157 (0, 0))) : W.cell? ⟨g, 0, none⟩ = some (.int .u32 f0) := (blk_cell h 0).trans rfl
theorem IsS157.set_0 {w0 W : World} {g : Nat} {f0 : Int} {f1 : Int} {f2 : Int} {f3 : Int} (h : IsS157 w0 W g f0 f1 f2 f3) (x : Int) : IsS157 w0 (W.setCell ⟨g, 0, none⟩ (.int .u32 x)) g x f1 f2 f3 := by
  obtain ⟨hb, hg⟩ := h
  exact ⟨by simpa using blk_set hb 0 (.int .u32 x), hg⟩
theorem cellS157_1 {W : World} {g : Nat} {f0 : Int} {f1 : Int} {f2 : Int} {f3 : Int} (h : W.heap[g]? = some (.cells #[.int .u32 f0, .int .u32 f1, .int .u32 f2, .int .u32 f3] 157 (0, 0))) : W.cell? ⟨g, 1, none⟩ = some (.int .u32 f1) := (blk_cell h 1).trans rfl
theorem IsS157.set_1 {w0 W : World} {g : Nat} {f0 : Int} {f1 : Int} {f2 : Int} {f3 : Int} (h : IsS157 w0 W g f0 f1 f2 f3) (x : Int) : IsS157 w0 (W.setCell ⟨g, 1, none⟩ (.int .u32 x)) g f0 x f2 f3 := by
  obtain ⟨hb, hg⟩ := h
  exact ⟨by simpa using blk_set hb 1 (.int .u32 x), hg⟩
theorem cellS157_2 {W : World} {g : Nat} {f0 : Int} {f1 : Int} {f2 : Int} {f3 : Int} (h : W.heap[g]? = some (.cells #[.int .u32 f0, .int .u32 f1, .int .u32 f2, .int .u32 f3] 157 (0, 0))) : W.cell? ⟨g, 2, none⟩ = some (.int .u32 f2) := (blk_cell h 2).trans rfl
theorem IsS157.set_2 {w0 W : World} {g : Nat} {f0 : Int} {f1 : Int} {f2 : Int} {f3 : Int} (h : IsS157 w0 W g f0 f1 f2 f3) (x : Int) : IsS157 w0 (W.setCell ⟨g, 2, none⟩ (.int .u32 x)) g f0 f1 x f3 := by
  obtain ⟨hb, hg⟩ := h
  exact ⟨by simpa using blk_set hb 2 (.int .u32 x), hg⟩
theorem cellS157_3 {W : World} {g : Nat} {f0 : Int} {f1 : Int} {f2 : Int} {f3 : Int} (h : W.heap[g]? = some (.cells #[.int .u32 f0, .int .u32 f1, .int .u32 f2, .int .u32 f3] 157 (0, 0))) : W.cell? ⟨g, 3, none⟩ = some (.int .u32 f3) := (blk_cell h 3).trans rfl
theorem IsS157.set_3 {w0 W : World} {g : Nat} {f0 : Int} {f1 : Int} {f2 : Int} {f3 : Int} (h : IsS157 w0 W g f0 f1 f2 f3) (x : Int) : IsS157 w0 (W.setCell ⟨g, 3, none⟩ (.int .u32 x)) g f0 f1 f2 x := by
  obtain ⟨hb, hg⟩ := h
  exact ⟨by simpa using blk_set hb 3 (.int .u32 x), hg⟩
theorem IsS157.new (w0 W : World) (f0 : Int) (f1 : Int) (f2 : Int) (f3 : Int) (hB : Below w0.heap.size w0 W) : IsS157 w0 (W.alloc (.cells #[.int .u32 f0, .int .u32 f1, .int .u32 f2, .int .u32 f3] 157)) W.heap.size f0 f1 f2 f3 := ⟨by simpa using heap_alloc_new W _, hB.size⟩

/-! ### impl_stirrer_stir: function 137 -/
def stir1 (a b c d v : Int) : Option (Int × Int × Int × Int) :=
  (bits_RotateLeft32.f ((b + Go.bits .xor .u32 a (v % 4294967296) * 16777619 % 4294967296) % 4294967296) 7).bind fun b1 =>
  (bits_RotateLeft32.f (Go.bits .xor .u32 c b1) 13).bind fun c1 =>
  (bits_RotateLeft32.f ((d + c1) % 4294967296) 17).bind fun d1 =>
  some (Go.bits .xor .u32 (Go.bits .xor .u32 a (v % 4294967296) * 16777619 % 4294967296) d1, b1, c1, d1)
def stirAll : List Int → Int → Int → Int → Int → Option (Int × Int × Int × Int)
  | [], a, b, c, d => some (a, b, c, d)
  | v :: l, a, b, c, d => (stir1 a b c d v).bind fun r => stirAll l r.1 r.2.1 r.2.2.1 r.2.2.2
def impl_stirrer_stir.f (s0_0 : Int) (s0_1 : Int) (s0_2 : Int) (s0_3 : Int) (l1 : List Int) : Option (Int × Int × Int × Int) :=
  if l1.length < 4611686018427387904 then stirAll l1 s0_0 s0_1 s0_2 s0_3 else none
theorem stirDrop (l : List Int) (i : Nat) (h : i < l.length) : l.drop i = rd l (i : Int) :: l.drop (i + 1) := by
  rw [List.drop_eq_getElem_cons h]
  congr 1
  simp [rd, List.getD_eq_getElem?_getD, h]
set_option maxHeartbeats 8000000 in
set_option maxRecDepth 100000 in
theorem impl_stirrer_stir.calls (g : Nat) (s0_0 : Int) (s0_1 : Int) (s0_2 : Int) (s0_3 : Int) (A1 : Option Addr) (c1 : Nat) (l1 : List Int) (r1 : Int) (r2 : Int) (r3 : Int) (r4 : Int) (w0 w : World) (hI : IsS157 w0 w g s0_0 s0_1 s0_2 s0_3) (hB : Below w0.heap.size w0 w) (hr1 : Kd.C (Kd.int .u8) w A1 l1.length l1) (hc1 : l1.length ≤ c1) (hf1 : ∀ ad, A1 = some ad → 0 < l1.length → ad.block ≠ g) (h : impl_stirrer_stir.f s0_0 s0_1 s0_2 s0_3 l1 = some (r1, r2, r3, r4)) :
    Calls Try.prog 137 #[.pointer (some ⟨g, 0, none⟩), .slice A1 l1.length c1] w fun e w' => e = .returned (.tuple #[]) ∧ IsS157 w0 w' g r1 r2 r3 r4 ∧ Below w0.heap.size w0 w' ∧ KeepBut w w' g none := by
 unfold impl_stirrer_stir.f at h; by_cases hlen : l1.length < 4611686018427387904
 ·rw [if_pos hlen] at h; have HR := Aside0.mk hr1; have HF := Aside0.mk hf1; clear hr1 hf1; have HI := Aside0.mk hI; have HB := Aside0.mk hB; have HS := Aside0.mk h; clear hI hB h; (go_enter Try.func137, Try.ntmps137); (go_wp2); (go_loopg [8] l1.length (fun kq v8 w' => ∃ (x a b c d : Int), v8 = .int .i64 x ∧ Aside0 (0 ≤ x ∧ x + kq = l1.length) ∧ Aside0 (stirAll (l1.drop x.toNat) a b c d = some (r1, r2, r3, r4)) ∧ Aside0 (IsS157 w0 w' g a b c d) ∧ Aside0 (Below w0.heap.size w0 w') ∧ Aside0 (KeepBut w w' g none)))
  case atStart => exact ⟨0, s0_0, s0_1, s0_2, s0_3, rfl, ⟨by omega⟩, HS, HI, HB, ⟨KeepBut.refl _ _ _⟩⟩
  case round =>
   obtain ⟨x, a, b, c, d, rfl, Hk, HA, HI, HB, HK⟩ := hrel; have h0 : 0 ≤ x := Hk.out.1; by_cases hlt : x < (l1.length : Int)
   ·have hltb : decide (x < (l1.length : Int)) = true := decide_eq_true hlt; have hs := HA.out; rw [stirDrop l1 x.toNat (by omega), Int.toNat_of_nonneg h0] at hs; simp only [stirAll, stir1, Option.bind_eq_some_iff] at hs; obtain ⟨q, ⟨b1, hb1, c2, hc2, d1, hd1, hq⟩, hs⟩ := hs; simp only [Option.some.injEq] at hq; subst hq; clear HA; have HA := Aside0.mk hs; clear hs; have HB1 := Aside0.mk hb1; have HC2 := Aside0.mk hc2; have HD1 := Aside0.mk hd1; clear hb1 hc2 hd1; obtain ⟨HG, hge⟩ := HI.out; obtain ⟨ad, ea, hx⟩ := Kd.at_int HR.out x h0 hlt; have hne := HF.out ad ea (by omega); subst ea; have hxw := keep_cell HK.out hx (by unfold Addr.add; split <;> exact hne); clear hx; have e0 := cellS157_0 HG; have f0 := blk_frozen HG 0; have HGr := Aside0.mk HG; clear HG; (go_wp2); obtain ⟨a1, ha1⟩ : ∃ a1 : Int, a1 = Go.bits .xor .u32 a (rd l1 x % 4294967296) * 16777619 % 4294967296 := ⟨_, rfl⟩; rw [← ha1]; rw [← ha1] at HA HB1; have Ha1 := Aside0.mk ha1; clear ha1 hxw; obtain ⟨W1, hW1⟩ : ∃ W_ : World, W_ = (wr.setCell ⟨g, 0, none⟩ (.int .u32 a1)).drew := ⟨_, rfl⟩; have HG1 : Aside0 (W1.heap[g]? = some (.cells #[.int .u32 a1, .int .u32 b, .int .u32 c, .int .u32 d] 157 (0, 0))) := ⟨by rw [hW1]; exact blk_drew (blk_put HGr.out 0 _ rfl)⟩; have HBW1 : Aside0 (Below w0.heap.size w0 W1) := ⟨by rw [hW1]; exact below_drew1 (below_set HB.out hge)⟩; have HKW1 : Aside0 (KeepBut w W1 g none) := ⟨by rw [hW1]; exact (HK.out.set_ 0 _)⟩; refine wp_region_still_tail 13 (by kernel_rfl) (by kernel_rfl) ?_; change wpStill _ _ ((wr.setCell ⟨g, 0, none⟩ (.int .u32 a1)).drew) (fun a' => wpList _ _ _ _ a' ((wr.setCell ⟨g, 0, none⟩ (.int .u32 a1)).drew)) _ _; rw [← hW1]; clear hW1 e0 f0; simp only [List.take_succ_cons, List.take_zero, List.drop_succ_cons, List.drop_zero]; have e1_0 := cellS157_0 HG1.out; have f1_0 := blk_frozen HG1.out 0; have e1_1 := cellS157_1 HG1.out; have f1_1 := blk_frozen HG1.out 1; have e1_2 := cellS157_2 HG1.out; have f1_2 := blk_frozen HG1.out 2; have e1_3 := cellS157_3 HG1.out; have f1_3 := blk_frozen HG1.out 3; (repeat still_step); still_call (bits_RotateLeft32.same _ _ _ _ HB1.out); (repeat still_step); refine wpStill_nil ?_; (go_wp2); obtain ⟨W2, hW2⟩ : ∃ W_ : World, W_ = (W1.setCell ⟨g, 1, none⟩ (.int .u32 b1)).drew := ⟨_, rfl⟩; have HG2 : Aside0 (W2.heap[g]? = some (.cells #[.int .u32 a1, .int .u32 b1, .int .u32 c, .int .u32 d] 157 (0, 0))) := ⟨by rw [hW2]; exact blk_drew (blk_put HG1.out 1 _ rfl)⟩; have HBW2 : Aside0 (Below w0.heap.size w0 W2) := ⟨by rw [hW2]; exact below_drew1 (below_set HBW1.out hge)⟩; have HKW2 : Aside0 (KeepBut w W2 g none) := ⟨by rw [hW2]; exact (HKW1.out.set_ 1 _)⟩; refine wp_region_still_tail 13 (by kernel_rfl) (by kernel_rfl) ?_; change wpStill _ _ ((W1.setCell ⟨g, 1, none⟩ (.int .u32 b1)).drew) (fun a' => wpList _ _ _ _ a' ((W1.setCell ⟨g, 1, none⟩ (.int .u32 b1)).drew)) _ _; rw [← hW2]; clear hW2 e1_0 f1_0 e1_1 f1_1 e1_2 f1_2 e1_3 f1_3; simp only [List.take_succ_cons, List.take_zero, List.drop_succ_cons, List.drop_zero]; have e2_0 := cellS157_0 HG2.out; have f2_0 := blk_frozen HG2.out 0; have e2_1 := cellS157_1 HG2.out; have f2_1 := blk_frozen HG2.out 1; have e2_2 := cellS157_2 HG2.out; have f2_2 := blk_frozen HG2.out 2; have e2_3 := cellS157_3 HG2.out; have f2_3 := blk_frozen HG2.out 3; (repeat still_step); still_call (bits_RotateLeft32.same _ _ _ _ HC2.out); (repeat still_step); refine wpStill_nil ?_; (go_wp2); obtain ⟨W3, hW3⟩ : ∃ W_ : World, W_ = (W2.setCell ⟨g, 2, none⟩ (.int .u32 c2)).drew := ⟨_, rfl⟩; have HG3 : Aside0 (W3.heap[g]? = some (.cells #[.int .u32 a1, .int .u32 b1, .int .u32 c2, .int .u32 d] 157 (0, 0))) := ⟨by rw [hW3]; exact blk_drew (blk_put HG2.out 2 _ rfl)⟩; have HBW3 : Aside0 (Below w0.heap.size w0 W3) := ⟨by rw [hW3]; exact below_drew1 (below_set HBW2.out hge)⟩; have HKW3 : Aside0 (KeepBut w W3 g none) := ⟨by rw [hW3]; exact (HKW2.out.set_ 2 _)⟩; refine wp_region_still_tail 13 (by kernel_rfl) (by kernel_rfl) ?_; change wpStill _ _ ((W2.setCell ⟨g, 2, none⟩ (.int .u32 c2)).drew) (fun a' => wpList _ _ _ _ a' ((W2.setCell ⟨g, 2, none⟩ (.int .u32 c2)).drew)) _ _; rw [← hW3]; clear hW3 e2_0 f2_0 e2_1 f2_1 e2_2 f2_2 e2_3 f2_3; simp only [List.take_succ_cons, List.take_zero, List.drop_succ_cons, List.drop_zero]; have e3_0 := cellS157_0 HG3.out; have f3_0 := blk_frozen HG3.out 0; have e3_1 := cellS157_1 HG3.out; have f3_1 := blk_frozen HG3.out 1; have e3_2 := cellS157_2 HG3.out; have f3_2 := blk_frozen HG3.out 2; have e3_3 := cellS157_3 HG3.out; have f3_3 := blk_frozen HG3.out 3; (repeat still_step); still_call (bits_RotateLeft32.same _ _ _ _ HD1.out); (repeat still_step); refine wpStill_nil ?_; (go_wp2); obtain ⟨W4, hW4⟩ : ∃ W_ : World, W_ = (W3.setCell ⟨g, 3, none⟩ (.int .u32 d1)).drew := ⟨_, rfl⟩; have HG4 : Aside0 (W4.heap[g]? = some (.cells #[.int .u32 a1, .int .u32 b1, .int .u32 c2, .int .u32 d1] 157 (0, 0))) := ⟨by rw [hW4]; exact blk_drew (blk_put HG3.out 3 _ rfl)⟩; have HBW4 : Aside0 (Below w0.heap.size w0 W4) := ⟨by rw [hW4]; exact below_drew1 (below_set HBW3.out hge)⟩; have HKW4 : Aside0 (KeepBut w W4 g none) := ⟨by rw [hW4]; exact (HKW3.out.set_ 3 _)⟩; refine wp_region_still_tail 11 (by kernel_rfl) (by kernel_rfl) ?_; change wpStill _ _ ((W3.setCell ⟨g, 3, none⟩ (.int .u32 d1)).drew) (fun a' => wpList _ _ _ _ a' ((W3.setCell ⟨g, 3, none⟩ (.int .u32 d1)).drew)) _ _; rw [← hW4]; clear hW4 e3_0 f3_0 e3_1 f3_1 e3_2 f3_2 e3_3 f3_3; simp only [List.take_succ_cons, List.take_zero, List.drop_succ_cons, List.drop_zero]; have e4_0 := cellS157_0 HG4.out; have f4_0 := blk_frozen HG4.out 0; have e4_1 := cellS157_1 HG4.out; have f4_1 := blk_frozen HG4.out 1; have e4_2 := cellS157_2 HG4.out; have f4_2 := blk_frozen HG4.out 2; have e4_3 := cellS157_3 HG4.out; have f4_3 := blk_frozen HG4.out 3; (repeat still_step); refine wpStill_nil ?_; (go_wp2); obtain ⟨m, rfl⟩ : ∃ m, gk = m + 1 := ⟨gk - 1, by have := Hk.out.2; omega⟩; (go_roundg m)
    case measure => omega
    case rel => exact ⟨x + 1, _, _, _, _, rfl, ⟨by have := Hk.out.2; omega⟩, ⟨by rw [show (x + 1).toNat = x.toNat + 1 from by omega]; exact HA.out⟩, ⟨⟨blk_put HG4.out 0 _ rfl, hge⟩⟩, ⟨below_set HBW4.out hge⟩, ⟨HKW4.out.set_ 0 _⟩⟩
   ·have hltb : decide (x < (l1.length : Int)) = false := decide_eq_false hlt; have hd : l1.drop x.toNat = [] := List.drop_of_length_le (by omega); have hs := HA.out; rw [hd] at hs; simp only [stirAll, Option.some.injEq, Prod.mk.injEq] at hs; have HS2 := Aside0.mk hs; clear hs hd; (go_wp2); (go_end0); obtain ⟨rfl, rfl, rfl, rfl⟩ := HS2.out; exact ⟨rfl, HI.out, HB.out, HK.out⟩
 ·rw [if_neg hlen] at h; exact absurd h (by simp)

/-! ### impl_digest: function 71 -/
def impl_digest.iter : Nat → Int → Int → Int → Int → Option (Int × Int × Int × Int)
  | 0, a, b, c, d => some (a, b, c, d)
  | n + 1, a, b, c, d => (impl_stirrer_stir.f a b c d [165]).bind fun s => impl_digest.iter n s.1 s.2.1 s.2.2.1 s.2.2.2
def impl_digest.f (k : Nat) (l0 : List Int) (l1 : List Int) : Option (List Int) :=
  (impl_fixed.f k [] (l0.length : Int) 4).bind fun t1 =>
  (impl_stirrer_stir.f 1779033703 3144134277 1013904242 2773480762 t1).bind fun s1 =>
  (impl_stirrer_stir.f s1.1 s1.2.1 s1.2.2.1 s1.2.2.2 l0).bind fun s2 =>
  (impl_stirrer_stir.f s2.1 s2.2.1 s2.2.2.1 s2.2.2.2 l1).bind fun s3 =>
  (impl_fixed.f k [] (l1.length : Int) 4).bind fun t2 =>
  (impl_stirrer_stir.f s3.1 s3.2.1 s3.2.2.1 s3.2.2.2 t2).bind fun s4 =>
  (impl_digest.iter 16 s4.1 s4.2.1 s4.2.2.1 s4.2.2.2).bind fun s5 =>
  (impl_fixed.f k [] (wrap64 s5.1) 4).bind fun o1 =>
  (impl_fixed.f k o1 (wrap64 s5.2.1) 4).bind fun o2 =>
  (impl_fixed.f k o2 (wrap64 s5.2.2.1) 4).bind fun o3 =>
  impl_fixed.f k o3 (wrap64 s5.2.2.2) 4
theorem impl_digest.mono : ∀ a0 a1 k, LeO (impl_digest.f k a0 a1) (impl_digest.f (k + 1) a0 a1) := by
  intro a0 a1 k
  unfold impl_digest.f
  repeat' first
      | (with_reducible exact impl_fixed.mono _ _ _ _)
      | (with_reducible exact LeO.refl _)
      | (with_reducible refine LeO.bind ?_ (fun _ => ?_))
      | exact impl_fixed.mono _ _ _ _
theorem ownBlk {A : Addr} {n c k : Nat} (h : (Value.slice (some A) n c).ownBlock = some k) : A.block = k := by
  simpa [Value.ownBlock] using h
theorem litRead (W : World) (v : Int) (e : Nat) : Kd.C (Kd.int .u8) (W.alloc (.cells #[.int .u8 v] e)) (some ⟨W.heap.size, 0, none⟩) ([v] : List Int).length [v] := by
  refine ⟨rfl, by simp, fun _ => ⟨⟨W.heap.size, 0, none⟩, rfl, ?_⟩⟩
  intro j p hj
  cases j with
  | succ j => simp at hj
  | zero =>
    simp at hj
    subst hj
    refine ⟨[.int .u8 v], rfl, rfl, ?_⟩
    intro i u hi
    cases i with
    | succ i => simp at hi
    | zero =>
      simp at hi
      subst hi
      exact (blk_cell (blk_new W (.cells #[.int .u8 v] e)) 0).trans rfl
theorem fixedNew (k : Nat) (v n : Int) (t : List Int) (w : World) (h : impl_fixed.f k [] v n = some t) :
    Calls Try.prog 72 #[.slice none 0 0, .int .i64 v, .int .i64 n] w fun e w' => ∃ A c, e = .returned (.slice A t.length c) ∧ t.length ≤ c ∧ Kd.C (Kd.int .u8) w' A t.length t ∧ (∀ ad, A = some ad → 0 < t.length → w.heap.size ≤ ad.block) ∧ Below w.heap.size w w' := by
  refine (impl_fixed.calls k (fun _ => False) (.slice none 0 0) [] v n t w w (Below.refl _ _) (Kd.R_nil _ _ _ _ _) h).mono ?_
  rintro e w' ⟨v0, rfl, hR, hB, _⟩
  obtain ⟨A, c, rfl, hl, hC⟩ := Kd.R_reads hR
  refine ⟨A, c, rfl, hl, hC, ?_, hB⟩
  rintro ad rfl hn
  rcases hR.1 ad.block (by simp [Value.ownBlock]) with h | h
  · exact h.elim
  · exact h
set_option maxHeartbeats 8000000 in
set_option maxRecDepth 100000 in
theorem impl_digest.calls (k : Nat) (A0 : Option Addr) (c0 : Nat) (l0 : List Int) (A1 : Option Addr) (c1 : Nat) (l1 : List Int) (r : List Int) (w : World) (hr0 : Kd.C (Kd.int .u8) w A0 l0.length l0) (hc0 : l0.length ≤ c0) (hr1 : Kd.C (Kd.int .u8) w A1 l1.length l1) (hc1 : l1.length ≤ c1) (h : impl_digest.f k l0 l1 = some r) :
    Calls Try.prog 71 #[.slice A0 l0.length c0, .slice A1 l1.length c1] w fun e w' => ∃ v0_ : Value, e = .returned (v0_) ∧ Kd.R (Kd.int .u8) 5 w' w.heap.size (fun _ => True) v0_ r ∧ Below w.heap.size w w' := by
  have HR0 := Aside0.mk hr0
  have HR1 := Aside0.mk hr1
  have HC0 := Aside0.mk hc0
  have HC1 := Aside0.mk hc1
  clear hr0 hr1 hc0 hc1
  unfold impl_digest.f at h
  simp only [Option.bind_eq_some_iff] at h
  obtain ⟨t1, ht1, ⟨a1, b1, x1, d1⟩, hs1, ⟨a2, b2, x2, d2⟩, hs2, ⟨a3, b3, x3, d3⟩, hs3, t2, ht2, ⟨a4, b4, x4, d4⟩, hs4, ⟨a5, b5, x5, d5⟩, hs5, o1, ho1, o2, ho2, o3, ho3, ho4⟩ := h
  have HT1 := Aside0.mk ht1
  have HS1 := Aside0.mk hs1
  have HS2 := Aside0.mk hs2
  have HS3 := Aside0.mk hs3
  have HT2 := Aside0.mk ht2
  have HS4 := Aside0.mk hs4
  have HS5 := Aside0.mk hs5
  have HO1 := Aside0.mk ho1
  have HO2 := Aside0.mk ho2
  have HO3 := Aside0.mk ho3
  have HO4 := Aside0.mk ho4
  clear ht1 hs1 hs2 hs3 ht2 hs4 hs5 ho1 ho2 ho3 ho4
  go_enter Try.func71, Try.ntmps71
  go_wp2_with (fail)
  refine (fixedNew k _ _ t1 _ HT1.out).mono ?_
  rintro e W1 ⟨A2, c2, rfl, hc2, hC2, hf2, hb2⟩
  have HB1 := am (below_then (below_alloc (Below.refl w.heap.size w) _) (by simp) hb2)
  have HI1 := am ((IsS157.new w w 1779033703 3144134277 1013904242 2773480762 (Below.refl _ _)).below hb2)
  have HF2 := am (fun ad (h : A2 = some ad) (hn : 0 < t1.length) => (show ad.block ≠ w.heap.size from by have := hf2 ad h hn; simp at this; omega))
  have HC2 := Aside0.mk hC2
  have HL2 := Aside0.mk hc2
  clear hc2 hC2 hf2 hb2
  go_wp2_with (fail)
  refine (impl_stirrer_stir.calls w.heap.size _ _ _ _ A2 c2 t1 a1 b1 x1 d1 w W1 HI1.out HB1.out HC2.out HL2.out HF2.out HS1.out).mono ?_
  rintro e W2 ⟨rfl, hI2, hB2, _⟩
  have HI2 := Aside0.mk hI2
  have HB2 := Aside0.mk hB2
  clear hI2 hB2
  go_wp2_with (fail)
  refine (impl_stirrer_stir.calls w.heap.size _ _ _ _ A0 c0 l0 a2 b2 x2 d2 w W2 HI2.out HB2.out (Kd.C_below HR0.out HB2.out) HC0.out (fun ad h hn => by subst h; have := Kd.C_lt HR0.out hn (by decide); omega) HS2.out).mono ?_
  rintro e W3 ⟨rfl, hI3, hB3, _⟩
  have HI3 := Aside0.mk hI3
  have HB3 := Aside0.mk hB3
  clear hI3 hB3
  go_wp2_with (fail)
  refine (impl_stirrer_stir.calls w.heap.size _ _ _ _ A1 c1 l1 a3 b3 x3 d3 w W3 HI3.out HB3.out (Kd.C_below HR1.out HB3.out) HC1.out (fun ad h hn => by subst h; have := Kd.C_lt HR1.out hn (by decide); omega) HS3.out).mono ?_
  rintro e W4 ⟨rfl, hI4, hB4, _⟩
  have HI4 := Aside0.mk hI4
  have HB4 := Aside0.mk hB4
  clear hI4 hB4
  go_wp2_with (fail)
  refine (fixedNew k _ _ t2 _ HT2.out).mono ?_
  rintro e W5 ⟨A3, c3, rfl, hc3, hC3, hf3, hb3⟩
  have HB5 := am (below_then HB4.out HB4.out.size hb3)
  have HI5 := am (HI4.out.below hb3)
  have HF3 := am (fun ad (h : A3 = some ad) (hn : 0 < t2.length) => (show ad.block ≠ w.heap.size from by have := hf3 ad h hn; have := IsS157.lt HI4.out; omega))
  have HC3 := Aside0.mk hC3
  have HL3 := Aside0.mk hc3
  clear hc3 hC3 hf3 hb3
  go_wp2_with (fail)
  refine (impl_stirrer_stir.calls w.heap.size _ _ _ _ A3 c3 t2 a4 b4 x4 d4 w W5 HI5.out HB5.out HC3.out HL3.out HF3.out HS4.out).mono ?_
  rintro e W6 ⟨rfl, hI6, hB6, _⟩
  have HI6 := Aside0.mk hI6
  have HB6 := Aside0.mk hB6
  clear hI6 hB6
  go_wp2_with (fail)
  go_loopg [27] 16 (fun kq v27 w' => ∃ (x a b c d : Int), v27 = .int .i64 x ∧ Aside0 (0 ≤ x ∧ x + kq = 16) ∧ Aside0 (impl_digest.iter kq a b c d = some (a5, b5, x5, d5)) ∧ Aside0 (IsS157 w w' w.heap.size a b c d) ∧ Aside0 (Below w.heap.size w w'))
  case atStart => exact ⟨0, a4, b4, x4, d4, rfl, ⟨by omega⟩, HS5, HI6, HB6⟩
  case round =>
    obtain ⟨x, a, b, c, d, rfl, Hk, HA, HI, HB⟩ := hrel
    have h0 : 0 ≤ x := Hk.out.1
    by_cases hlt : x < 16
    · obtain ⟨m, rfl⟩ : ∃ m, gk = m + 1 := ⟨gk - 1, by have := Hk.out.2; omega⟩
      have ha := HA.out
      simp only [impl_digest.iter, Option.bind_eq_some_iff] at ha
      obtain ⟨⟨a6, b6, x6, d6⟩, hs6, ha⟩ := ha
      have HS6 := Aside0.mk hs6
      have HA6 := Aside0.mk ha
      clear hs6 ha HA
      go_wp2_with (fail)
      refine (impl_stirrer_stir.calls w.heap.size _ _ _ _ _ 1 [165] a6 b6 x6 d6 w _ (HI.out.alloc _) (below_alloc HB.out _) (litRead wr 165 _) (by decide) (fun ad h hn => by cases h; have := IsS157.lt HI.out; show wr.heap.size ≠ w.heap.size; omega) HS6.out).mono ?_
      rintro e W7 ⟨rfl, hI7, hB7, _⟩
      have HI7 := Aside0.mk hI7
      have HB7 := Aside0.mk hB7
      clear hI7 hB7
      go_wp2
      go_roundg m
      case measure => omega
      case rel => exact ⟨x + 1, a6, b6, x6, d6, rfl, ⟨by have := Hk.out.2; omega⟩, HA6, HI7, HB7⟩
    · obtain rfl : gk = 0 := by have := Hk.out.2; omega
      have ha := HA.out
      simp only [impl_digest.iter, Option.some.injEq, Prod.mk.injEq] at ha
      obtain ⟨rfl, rfl, rfl, rfl⟩ := ha
      clear HA
      go_wp2_with (fail)
      obtain ⟨W8, hW8⟩ : ∃ W_ : World, W_ = wr.alloc (.cells #[] 5) := ⟨_, rfl⟩
      have HO8 : Aside0 (Kd.R (Kd.int .u8) 5 W8 w.heap.size (fun k => w.heap.size < k) (.slice (some ⟨wr.heap.size, 0, none⟩) 0 0) []) := ⟨by
        rw [hW8]
        have hlt := IsS157.lt HI.out
        exact ⟨fun k hk => by have := ownBlk hk; simp at this; omega, [], own_lit wr w.heap.size 5 .u8 [] (by omega) (by simp), Reps.none _ _⟩⟩
      have HI8 : Aside0 (IsS157 w W8 w.heap.size a b c d) := ⟨by rw [hW8]; exact HI.out.alloc _⟩
      have HB8 : Aside0 (Below w.heap.size w W8) := ⟨by rw [hW8]; exact below_alloc HB.out _⟩
      rw [← hW8]
      clear hW8
      obtain ⟨HG, hge⟩ := HI8.out
      have e0 := cellS157_0 HG
      have e1 := cellS157_1 HG
      have e2 := cellS157_2 HG
      have e3 := cellS157_3 HG
      clear HG
      go_quiet (fail)
      go_wp2_with (fail)
      go_loopg [51, 6] 4 (fun kq v51 v6 w' => ∃ (x : Int) (vo : Value) (o : List Int), v51 = .int .i64 x ∧ v6 = vo ∧ Aside0 (x = 0 ∧ o = [] ∨ x = 1 ∧ o = o1 ∨ x = 2 ∧ o = o2 ∨ x = 3 ∧ o = o3 ∨ x = 4 ∧ o = r) ∧ Aside0 (x + kq = 4) ∧ Aside0 (Kd.R (Kd.int .u8) 5 w' w.heap.size (fun k => w.heap.size < k) vo o) ∧ Aside0 (Below w.heap.size w w') ∧ Aside0 (w.heap.size < w'.heap.size))
      case atStart => exact ⟨0, _, [], rfl, rfl, ⟨.inl ⟨rfl, rfl⟩⟩, ⟨by omega⟩, HO8, ⟨pw_below_drewN HB8.out _⟩, ⟨IsS157.lt HI8.out⟩⟩
      case round =>
        clear e0 e1 e2 e3
        obtain ⟨x9, vo, o9, rfl, rfl, Ho, Hq, HR9, HB9, HL9⟩ := hrel
        rcases Ho.out with ⟨rfl, rfl⟩ | ⟨rfl, rfl⟩ | ⟨rfl, rfl⟩ | ⟨rfl, rfl⟩ | ⟨rfl, rfl⟩
        · have ix : ∀ w_ : World, (Instr.index 159 (.agg #[.int .u32 a, .int .u32 b, .int .u32 c, .int .u32 d]) (.int .i64 0)).run Try.prog w_ = .ok (.int .u32 a) w_ := fun _ => by kernel_rfl
          go_wp2_with (fail)
          refine (impl_fixed.calls k (fun k => w.heap.size < k) _ _ _ 4 _ w wr HB9.out HR9.out HO1.out).mono ?_
          rintro e w10 ⟨v10, rfl, hR10, hB10, hK10⟩
          have HR10 := am (Kd.R_mono hR10 (fun k hk => hk.elim (fun h => h) (fun h => Nat.lt_of_lt_of_le HL9.out h)))
          have HB10 := Aside0.mk hB10
          have HL10 := am (Nat.lt_of_lt_of_le HL9.out hK10.1)
          clear hR10 hB10 hK10
          go_wp2
          obtain ⟨m, rfl⟩ : ∃ m, gk = m + 1 := ⟨gk - 1, by have := Hq.out; omega⟩
          go_roundg m
          case measure => omega
          case rel => exact ⟨1, v10, o1, rfl, rfl, ⟨.inr (.inl ⟨rfl, rfl⟩)⟩, ⟨by have := Hq.out; omega⟩, HR10, HB10, HL10⟩
        · have ix : ∀ w_ : World, (Instr.index 159 (.agg #[.int .u32 a, .int .u32 b, .int .u32 c, .int .u32 d]) (.int .i64 1)).run Try.prog w_ = .ok (.int .u32 b) w_ := fun _ => by kernel_rfl
          go_wp2_with (fail)
          refine (impl_fixed.calls k (fun k => w.heap.size < k) _ _ _ 4 _ w wr HB9.out HR9.out HO2.out).mono ?_
          rintro e w10 ⟨v10, rfl, hR10, hB10, hK10⟩
          have HR10 := am (Kd.R_mono hR10 (fun k hk => hk.elim (fun h => h) (fun h => Nat.lt_of_lt_of_le HL9.out h)))
          have HB10 := Aside0.mk hB10
          have HL10 := am (Nat.lt_of_lt_of_le HL9.out hK10.1)
          clear hR10 hB10 hK10
          go_wp2
          obtain ⟨m, rfl⟩ : ∃ m, gk = m + 1 := ⟨gk - 1, by have := Hq.out; omega⟩
          go_roundg m
          case measure => omega
          case rel => exact ⟨2, v10, o2, rfl, rfl, ⟨.inr (.inr (.inl ⟨rfl, rfl⟩))⟩, ⟨by have := Hq.out; omega⟩, HR10, HB10, HL10⟩
        · have ix : ∀ w_ : World, (Instr.index 159 (.agg #[.int .u32 a, .int .u32 b, .int .u32 c, .int .u32 d]) (.int .i64 2)).run Try.prog w_ = .ok (.int .u32 c) w_ := fun _ => by kernel_rfl
          go_wp2_with (fail)
          refine (impl_fixed.calls k (fun k => w.heap.size < k) _ _ _ 4 _ w wr HB9.out HR9.out HO3.out).mono ?_
          rintro e w10 ⟨v10, rfl, hR10, hB10, hK10⟩
          have HR10 := am (Kd.R_mono hR10 (fun k hk => hk.elim (fun h => h) (fun h => Nat.lt_of_lt_of_le HL9.out h)))
          have HB10 := Aside0.mk hB10
          have HL10 := am (Nat.lt_of_lt_of_le HL9.out hK10.1)
          clear hR10 hB10 hK10
          go_wp2
          obtain ⟨m, rfl⟩ : ∃ m, gk = m + 1 := ⟨gk - 1, by have := Hq.out; omega⟩
          go_roundg m
          case measure => omega
          case rel => exact ⟨3, v10, o3, rfl, rfl, ⟨.inr (.inr (.inr (.inl ⟨rfl, rfl⟩)))⟩, ⟨by have := Hq.out; omega⟩, HR10, HB10, HL10⟩
        · have ix : ∀ w_ : World, (Instr.index 159 (.agg #[.int .u32 a, .int .u32 b, .int .u32 c, .int .u32 d]) (.int .i64 3)).run Try.prog w_ = .ok (.int .u32 d) w_ := fun _ => by kernel_rfl
          go_wp2_with (fail)
          refine (impl_fixed.calls k (fun k => w.heap.size < k) _ _ _ 4 _ w wr HB9.out HR9.out HO4.out).mono ?_
          rintro e w10 ⟨v10, rfl, hR10, hB10, hK10⟩
          have HR10 := am (Kd.R_mono hR10 (fun k hk => hk.elim (fun h => h) (fun h => Nat.lt_of_lt_of_le HL9.out h)))
          have HB10 := Aside0.mk hB10
          have HL10 := am (Nat.lt_of_lt_of_le HL9.out hK10.1)
          clear hR10 hB10 hK10
          go_wp2
          obtain ⟨m, rfl⟩ : ∃ m, gk = m + 1 := ⟨gk - 1, by have := Hq.out; omega⟩
          go_roundg m
          case measure => omega
          case rel => exact ⟨4, v10, r, rfl, rfl, ⟨.inr (.inr (.inr (.inr (⟨rfl, rfl⟩))))⟩, ⟨by have := Hq.out; omega⟩, HR10, HB10, HL10⟩
        · go_wp2
          go_ret
          exact ⟨_, rfl, Kd.R_mono HR9.out (fun _ _ => trivial), HB9.out⟩

end Go.Proofs.Ytolpikjbdfpdcaa.PFnSealed
