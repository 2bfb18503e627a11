-- Written by a program of this repo (xprint.py) out of the translation; Lean checks it.
import Derived.Test.YtkloeccbhjngiaaPFnExactReadHyperx0
namespace Go.Proofs.Ytkloeccbhjngiaa.PFnExactReadHyper
open Go.RowKit Go.Proofs.YtkloeccbhjngiaaW.PrintWords Go.Proofs.YtkloeccbhjngiaaW.PrintLast Go.Proofs.YtkloeccbhjngiaaW.PrintMore
attribute [local go_sem] max2_int min2_int max_two min_two max_three min_three max_four min_four   -- for this text's walks alone
set_option linter.unusedVariables false
set_option linter.unusedSimpArgs false

/-! ### laws_toByteS: function 14 -/
def laws_toByteS.l0 : Nat → List Int → List Int → Int → Option (List Int)
  | 0, _, _, _ => none
  | k + 1, x0, x3, x4 => if x4 < (x0.length : Int) then (if 0 ≤ x4 then (if x4 < (x3.length : Int) then (laws_toByteS.l0 k x0 (x3.set (x4 : Int).toNat (rd x0 x4)) (wrap64 (x4 + 1))) else (none)) else (none)) else (some x3)
def laws_toByteS.f (k : Nat) (l0 : List Int) : Option (List Int) := if 0 ≤ (l0.length : Int) then (if ((l0.length : Int) : Int).toNat ≤ 281474976710656 then (laws_toByteS.l0 k l0 (List.replicate ((l0.length : Int) : Int).toNat 0) 0) else (none)) else (none)
theorem laws_toByteS.mono_l : ∀ k, (∀ y0 y1 y2, LeO (laws_toByteS.l0 k y0 y1 y2) (laws_toByteS.l0 (k + 1) y0 y1 y2))
  | 0 => fun _ _ _ r h => by simp [laws_toByteS.l0] at h
  | k + 1 => by
    have ih0 := laws_toByteS.mono_l k
    · intro y0 y1 y2
      unfold laws_toByteS.l0
      repeat' first
      | (with_reducible exact ih0 _ _ _)
      | (with_reducible exact LeO.refl _)
      | (with_reducible exact LeO.none _)
      | (with_reducible refine LeO.ite ?_ ?_)
      | (with_reducible refine LeO.bind ?_ (fun _ => ?_))
      | exact ih0 _ _ _
      | exact LeO.none _
      | refine LeO.ite ?_ ?_
      | refine LeO.bind ?_ (fun _ => ?_)
theorem laws_toByteS.mono : ∀ a0 k, LeO (laws_toByteS.f k a0) (laws_toByteS.f (k + 1) a0) := by
  intro a0 k
  have ih0 := laws_toByteS.mono_l k
  unfold laws_toByteS.f
  repeat' first
      | (with_reducible exact ih0 _ _ _)
      | (with_reducible exact LeO.refl _)
      | (with_reducible exact LeO.none _)
      | (with_reducible refine LeO.ite ?_ ?_)
      | (with_reducible refine LeO.bind ?_ (fun _ => ?_))
      | exact ih0 _ _ _
      | exact LeO.none _
      | refine LeO.ite ?_ ?_
      | refine LeO.bind ?_ (fun _ => ?_)
set_option maxHeartbeats 8000000 in
set_option maxRecDepth 100000 in
theorem laws_toByteS.calls (k : Nat) (A0 : Option Addr) (c0 : Nat) (l0 : List Int) (r : List Int) (w : World) (hr0 : Kd.C (Kd.int .u8) w A0 l0.length l0) (hc0 : l0.length ≤ c0) (h : laws_toByteS.f k l0 = some r) :
    Calls Try.prog 14 #[.slice A0 l0.length c0] w fun e w' => ∃ v0_ : Value, e = .returned (v0_) ∧ Kd.R (Kd.int .u8) 5 w' w.heap.size (fun _ => True) v0_ r ∧ Below w.heap.size w w' := by
  have HR0 := Aside0.mk hr0
  have HC0 := Aside0.mk hc0
  clear hr0 hc0
  have HB := Aside0.mk (Below.refl w.heap.size w)
  have H : (if 0 ≤ (l0.length : Int) then (if ((l0.length : Int) : Int).toNat ≤ 281474976710656 then (laws_toByteS.l0 k l0 (List.replicate ((l0.length : Int) : Int).toNat 0) 0) else (none)) else (none)) = some r := h
  clear h
  by_cases c2 : 0 ≤ (l0.length : Int)
  · rw [if_pos c2] at H
    have c2b0 := eq_true c2
    have c2b1 : decide (0 ≤ (l0.length : Int)) = true := decide_eq_true c2
    clear c2
    by_cases c3 : ((l0.length : Int) : Int).toNat ≤ 281474976710656
    · rw [if_pos c3] at H
      have c3b0 := eq_true c3
      have c3b1 : decide (((l0.length : Int) : Int).toNat ≤ 281474976710656) = true := decide_eq_true c3
      clear c3
      obtain ⟨y120, hy120⟩ : ∃ y_ : List Int, y_ = (List.replicate ((l0.length : Int) : Int).toNat 0) := ⟨_, rfl⟩
      replace H : (laws_toByteS.l0 k l0 y120 0) = some r := by first | (rw [hy120]; with_reducible exact H) | (have H2_ := (Option.bind_some _ _).symm.trans H; rw [hy120]; with_reducible exact H2_) | (have H2_ := (Option.bind_some _ _).symm.trans H; with_reducible exact H2_) | with_reducible exact H | (rw [hy120]; exact H) | exact H
      have Ny120 := Aside0.mk hy120
      clear hy120
      have H' := Aside0.mk H
      clear H
      go_enter Try.func14, Try.ntmps14
      go_wp2_with (first | ((with_reducible refine gate_dst (N := 7) rfl ?_); refine Kd.R_make (Kd.int .u8) _ 5 rfl (N := 7) rfl 22 _ _ rfl (l0.length : Int) rfl rfl Try.underlying22 (.int .u8 0) 1 info5 rfl (by decide) (by omega) 0 (ok := fun _ => True) (okp := fun _ => True) rfl (fun _ hk => hk) trivial (of_decide_eq_true (by first | (with_reducible assumption) | assumption)) (Nat.le_trans (Nat.mul_le_mul_right _ (of_decide_eq_true (by first | (with_reducible assumption) | assumption) : (l0.length : Int).toNat ≤ 281474976710656)) (by omega)) (Below.refl _ _) (Nat.le_refl _) ?_; intro v121 w4 ho5 hb hg_ hnew_; clear hg_ hnew_; (first | rw [← Ny120.out] at ho5 | (simp only [Int.reduceToNat] at ho5; rw [← Ny120.out] at ho5)); have n0_ := Aside0.mk (Kd.R_lower ho5 (below_size (by repeat (first | (with_reducible first | exact HB.out | apply below_alloc | apply pw_below_drewN | apply below_drew1) | exact HB.out)))); have n1_ := Aside0.mk (below_step (by repeat (first | (with_reducible first | exact HB.out | apply below_alloc | apply pw_below_drewN | apply below_drew1) | exact HB.out)) hb); clear HB; have HO122 := n0_; have HB := n1_; clear n0_ n1_; clear hb ho5))
      go_loopg [4] k (fun kq v4 w' => ∃ (x3_1 : List Int) (x4_1 : Int), v4 = .int .i64 x4_1 ∧ Aside0 (laws_toByteS.l0 kq l0 x3_1 x4_1 = some r) ∧ Aside0 (kq ≤ k) ∧ Aside0 (Kd.R (Kd.int .u8) 5 w' w.heap.size (fun _ => True) v121 x3_1) ∧ Aside0 (Below w.heap.size w w'))
      case atStart => exact ⟨(y120), (0), (by first | rfl | (simp; done) | (simp [*]; done)), H', ⟨Nat.le_refl _⟩, ⟨by (with_reducible repeat (first | apply Kd.R_alloc | apply Kd.R_drewN | apply Kd.R_drew)); exact HO122.out⟩, ⟨by repeat (first | (with_reducible first | exact HB.out | apply below_alloc | apply pw_below_drewN | apply below_drew1) | exact HB.out)⟩⟩
      case round =>
        clear H'
        try clear c1
        try clear c2
        try clear c2b0
        try clear c2b1
        try clear p2
        try clear c3
        try clear c3b0
        try clear c3b1
        obtain ⟨x3_1, x4_1, rfl, HA, HK1, HO_3, HB⟩ := hrel
        cases gk with
        | zero => exact absurd HA.out (by simp [laws_toByteS.l0])
        | succ k1 =>
          have H := HA.out
          clear HA
          simp only [laws_toByteS.l0] at H
          by_cases c6 : x4_1 < (l0.length : Int)
          · rw [if_pos c6] at H
            have c6b0 : decide (x4_1 < (l0.length : Int)) = true := decide_eq_true c6
            clear c6
            by_cases c7 : 0 ≤ x4_1
            · rw [if_pos c7] at H
              have c7b0 : decide (0 ≤ x4_1) = true := decide_eq_true c7
              clear c7
              by_cases c8 : x4_1 < (x3_1.length : Int)
              · rw [if_pos c8] at H
                have c8b0 : decide (x4_1 < (x3_1.length : Int)) = true := decide_eq_true c8
                clear c8
                obtain ⟨y124, hy124⟩ : ∃ y_ : List Int, y_ = (x3_1.set (x4_1 : Int).toNat (rd l0 x4_1)) := ⟨_, rfl⟩
                replace H : (laws_toByteS.l0 k1 l0 y124 (wrap64 (x4_1 + 1))) = some r := by first | (rw [hy124]; with_reducible exact H) | (have H2_ := (Option.bind_some _ _).symm.trans H; rw [hy124]; with_reducible exact H2_) | (have H2_ := (Option.bind_some _ _).symm.trans H; with_reducible exact H2_) | with_reducible exact H | (rw [hy124]; exact H) | exact H
                have Ny124 := Aside0.mk hy124
                clear hy124
                have H' := Aside0.mk H
                clear H
                have p123 : 0 ≤ (x4_1 : Int) := of_decide_eq_true (by first | (with_reducible assumption) | assumption)
                have q123 : x4_1 < (l0.length : Int) := of_decide_eq_true (by first | (with_reducible assumption) | assumption)
                obtain ⟨ad123, e123, hx123_0⟩ := Kd.at_int HR0.out x4_1 p123 q123
                cases e123
                replace hx123_0 := (HB.out.cell (World.block_lt_of_cell? w _ hx123_0)).trans hx123_0
                replace p123 := eq_true p123
                replace q123 := eq_true q123
                have p9 : 0 ≤ (x4_1 : Int) := of_decide_eq_true (by first | (with_reducible assumption) | assumption)
                have q9 : (x4_1 : Int) < ((x3_1.length : Int) : Int) := of_decide_eq_true (by first | (with_reducible assumption) | assumption)
                obtain ⟨go9, co9, eo9, gb9, gl9, cl9, HG9⟩ := Kd.R_form HO_3.out (by omega)
                (first | cases eo9 | (injection eo9 with ea_ en_ ec_; (first | subst ea_ | (injection ea_ with ea_; subst ea_)); subst ec_; clear en_))
                have GB9 := Aside0.mk gb9
                have GG9 := Aside0.mk HG9
                clear gb9 gl9 HG9
                obtain ⟨hx9_0, hf9_0⟩ := Kd.R_celln 0 HO_3.out (x4_1 : Int) p9 q9
                replace p9 := eq_true p9
                replace q9 := eq_true q9
                have HP10 := Kd.R_putg HO_3.out (x4_1 : Int) (rd l0 x4_1)
                go_wp2_with (first | ((with_reducible refine gate_store (t := 5) (p := 20) rfl ?_); refine store_event (t := 5) (p := 20) (v := ?vo_w11) (w1 := (wr.setCell ⟨go9, (x4_1 : Int).toNat, none⟩ (.int .u8 (rd l0 x4_1)))) ?hg ?ho ?hn ?hr ?_; (case ho => rfl); (case hg => rfl); (case hn => rfl); (case hr => first | (go_simp; done) | (go_simp; rfl)); intro w11 hw; have hg : wr.grownBy w11 (some go9) := (by rw [hw]; exact HP10.2); have hp_ : Kd.R (Kd.int .u8) 5 w11 w.heap.size (fun _ => True) (.slice (some ⟨go9, 0, none⟩) x3_1.length co9) y124 := (by rw [hw, Ny124.out]; exact HP10.1); clear HP10; have n0_ := Aside0.mk (hp_); have n1_ := Aside0.mk ((by rw [hw]; exact below_set (HB.out) GB9.out : Below w.heap.size w w11)); clear HO_3; clear HB; have HO_3 := n0_; have HB := n1_; clear n0_ n1_; clear hg hw hp_))
                go_roundg k1
                case measure => have := HK1.out; omega
                case rel => exact ⟨(y124), (wrap64 (x4_1 + 1)), (by first | rfl | (simp; done) | (simp [*]; done)), H', ⟨by have := HK1.out; omega⟩, ⟨by (with_reducible repeat (first | apply Kd.R_alloc | apply Kd.R_drewN | apply Kd.R_drew)); exact HO_3.out⟩, ⟨by repeat (first | (with_reducible first | exact HB.out | apply below_alloc | apply pw_below_drewN | apply below_drew1) | exact HB.out)⟩⟩
              · rw [if_neg c8] at H
                exact absurd H (by simp)
            · rw [if_neg c7] at H
              exact absurd H (by simp)
          · rw [if_neg c6] at H
            have c6b0 : decide (x4_1 < (l0.length : Int)) = false := decide_eq_false c6
            clear c6
            obtain rfl := Option.some.inj H
            go_wp2
            go_ret
            exact ⟨_, by first | rfl | (simp [errW_none, errW_some] <;> rfl) | (simp [*, errW_none, errW_some] <;> rfl), by (with_reducible repeat (first | apply Kd.R_alloc | apply Kd.R_drewN | apply Kd.R_drew)); exact HO_3.out, by repeat (first | (with_reducible first | exact HB.out | apply below_alloc | apply pw_below_drewN | apply below_drew1) | exact HB.out)⟩
    · rw [if_neg c3] at H
      exact absurd H (by simp)
  · rw [if_neg c2] at H
    exact absurd H (by simp)

/-! ### impl_inVar: function 87 -/
def impl_inVar.f (a0 : Int) : Option (Bool) := if a0 ≥ 0 then (some (decide (a0 ≤ 4611686018427387903))) else (some false)
set_option maxHeartbeats 8000000 in
set_option maxRecDepth 100000 in
theorem impl_inVar.calls (a0 : Int) (r : Bool) (w : World) (h : impl_inVar.f a0 = some r) :
    Calls Try.prog 87 #[.int .i64 a0] w fun e w' => e = .returned (.bool r) ∧ Drawn0 w w' := by
  have H : (if a0 ≥ 0 then (some (decide (a0 ≤ 4611686018427387903))) else (some false)) = some r := h
  clear h
  by_cases c2 : a0 ≥ 0
  · rw [if_pos c2] at H
    have c2b0 : decide (0 ≤ a0) = true := decide_eq_true c2
    clear c2
    obtain rfl := Option.some.inj H
    go_enter Try.func87, Try.ntmps87
    go_wp2
    go_ret
    exact ⟨by first | rfl | (simp; done) | (simp [*]; done), by repeat (first | exact Drawn0.refl _ | apply Drawn0.step)⟩
  · rw [if_neg c2] at H
    have c2b0 : decide (0 ≤ a0) = false := decide_eq_false c2
    clear c2
    obtain rfl := Option.some.inj H
    go_enter Try.func87, Try.ntmps87
    go_wp2
    go_ret
    exact ⟨by first | rfl | (simp; done) | (simp [*]; done), by repeat (first | exact Drawn0.refl _ | apply Drawn0.step)⟩

/-! ### impl_unlike_int: function 88 -/
/-- BLOCK b IS A MAP from ints to bools of at most n entries that tells f. -/
def BMap (w : World) (b n : Nat) (f : Int → Bool) : Prop :=
  ∃ D : DataW Unit, w.ownsMap Try.prog 3 (plainElem Try.prog 4) b n D ∧ Go.Maps.IsMap D ∧ ∀ x : Int, D.atKey (.int .i64 x) (.lit (.bool false)) = .lit (.bool (f x))
theorem bm_keyed : Go.Maps.Keyed Try.prog 3 := Go.Maps.int_keyed Try.underlying3
theorem bm_zero (w : World) : (zeroValue 4).run Try.prog w = .ok (.bool false) w := by kernel_rfl
theorem BMap.made (w : World) : BMap (w.alloc (.map #[] 0)) w.heap.size 0 (fun _ => false) :=
  ⟨_, World.ownsMap_made _ _ _ _, Go.Maps.isMap_empty, fun x => rfl⟩
theorem BMap.kept {w w' : World} {b n : Nat} {f : Int → Bool} {row : Option Nat} (h : BMap w b n f) (hg : w.grownBy w' row) (hne : some b ≠ row) : BMap w' b n f := by
  obtain ⟨D, h1, h2⟩ := h
  exact ⟨D, h1.kept hg hne, h2⟩
theorem plainBool_inv {H : Type} {P : Program} {e : TypeId} (he : P.underlying e = some .bool) {v : Value} {z : DataW H × List MemPlace} (h : plainElem P e v = some z) : ∃ a, v = .bool a ∧ z = (.lit (.bool a), []) := by
  unfold plainElem at h
  rw [he] at h
  cases v <;> simp at h
  exact ⟨_, rfl, h.symm⟩
theorem BMap.look {w : World} {b n t : Nat} {f : Int → Bool} (h : BMap w b n f) (ht : Try.prog.underlying t = some (.map 3 4)) {x : Int} (hx : (Lit.int .i64 x).wf = true) :
    (Instr.lookup t (.map (some b)) (.int .i64 x) false).run Try.prog w = .ok (.bool (f x)) w := by
  obtain ⟨D, h1, _, h3⟩ := h
  obtain ⟨v, ps, hrun, hv⟩ := h1.lookup bm_keyed ht (bm_zero w) (plainElem_bool Try.underlying4 false) (Go.Maps.keyOf_int_mk Try.underlying3 hx)
  obtain ⟨a, rfl, ha⟩ := plainBool_inv Try.underlying4 hv
  rw [h3 x] at ha
  simp only [Prod.mk.injEq, DataW.lit.injEq, Lit.bool.injEq] at ha
  rw [hrun, ha.1]
theorem BMap.put {w w1 : World} {b n : Nat} {f : Int → Bool} {x : Int} {v : Bool} (hf : BMap w b n f) (hk : WideAt.IsKeyLit (.int .i64 x)) {D : DataW Unit} (hD : Go.Maps.IsMap D) (h3 : ∀ x : Int, D.atKey (.int .i64 x) (.lit (.bool false)) = .lit (.bool (f x)))
    (h : w1.ownsMap Try.prog 3 (plainElem Try.prog 4) b (n + 1) (D.put (.int .i64 x) (.lit (.bool v)))) : BMap w1 b (n + 1) (fun y => if y = x then v else f y) := by
  refine ⟨_, h, hD.put _ _, fun y => ?_⟩
  by_cases e : y = x
  · subst e
    rw [Go.Maps.atKey_put_same hD hk]
    simp
  · rw [Go.Maps.atKey_put_other (by intro h; injection h with _ h; exact e h), h3]
    simp [e]
/-- No element stands twice, nor among those seen. -/
def unlikeL : List Int → List Int → Bool
  | _, [] => true
  | s, x :: l => if s.contains x then false else unlikeL (x :: s) l
def impl_unlike_int.f (l0 : List Int) : Option Bool := if l0.length < 4611686018427387904 ∧ (l0.all fun x => (Lit.int .i64 x).wf) = true then some (unlikeL [] l0) else none
theorem unlikeDrop (l : List Int) (i : Nat) (h : i < l.length) : l.drop i = rd l (i : Int) :: l.drop (i + 1) := by
  rw [List.drop_eq_getElem_cons h]
  congr 1
  simp [rd, List.getD_eq_getElem?_getD, h]
theorem rdWf {l : List Int} (hw : (l.all fun x => (Lit.int .i64 x).wf) = true) (i : Nat) (h : i < l.length) : (Lit.int .i64 (rd l (i : Int))).wf = true := by
  rw [List.all_eq_true] at hw
  have e : rd l (i : Int) = l[i] := by simp [rd, List.getD_eq_getElem?_getD, h]
  rw [e]
  exact hw _ (List.getElem_mem h)
set_option maxHeartbeats 1000000 in
set_option maxRecDepth 100000 in
theorem impl_unlike_int.calls (A0 : Option Addr) (c0 : Nat) (l0 : List Int) (r : Bool) (w : World) (hr0 : Kd.C (Kd.int .i64) w A0 l0.length l0) (hc0 : l0.length ≤ c0) (h : impl_unlike_int.f l0 = some r) :
    Calls Try.prog 88 #[.slice A0 l0.length c0] w fun e w' => e = .returned (.bool r) ∧ Below w.heap.size w w' := by
  unfold impl_unlike_int.f at h
  by_cases hlen : l0.length < 4611686018427387904 ∧ (l0.all fun x => (Lit.int .i64 x).wf) = true
  · rw [if_pos hlen] at h
    have HW := Aside0.mk hlen.2
    have hlen := hlen.1
    have HR := Aside0.mk hr0
    clear hr0
    have HS := Aside0.mk (Option.some.inj h)
    clear h
    have hmm := @run_makeMap Try.prog
    go_enter Try.func88, Try.ntmps88
    go_wp2
    go_loopg [9] l0.length (fun kq v9 wr => ∃ (k : Nat) (s : List Int), v9 = .int .i64 k ∧ Aside0 (k + kq = l0.length) ∧ Aside0 (unlikeL s (l0.drop k) = r) ∧ Aside0 (BMap wr w.heap.size k (fun y => s.contains y)) ∧ Aside0 (Below w.heap.size w wr))
    case atStart => exact ⟨0, [], rfl, ⟨by omega⟩, HS, ⟨BMap.made w⟩, ⟨(Below.refl _ _).alloc (Nat.le_refl _) _⟩⟩
    case round =>
      obtain ⟨k, s, rfl, Hk, HA, HM, HB⟩ := hrel
      by_cases hlt : k < l0.length
      · have hltz : (k : Int) < (l0.length : Int) := by omega
        have hs := HA.out
        rw [unlikeDrop l0 k hlt, unlikeL] at hs
        obtain ⟨ad, ea, hx⟩ := Kd.at_int (Kd.C_below HR.out HB.out) (k : Int) (by omega) (by omega)
        subst ea
        rw [Int.toNat_natCast] at hx
        have hwf := rdWf HW.out k hlt
        have hlook := HM.out.look Try.underlying182 hwf
        generalize hX : rd l0 (k : Int) = X at *
        have HX := Aside0.mk hX
        clear hX
        cases hc : s.contains X with
        | true =>
          rw [if_pos hc] at hs
          rw [hc] at hlook
          have HS2 := Aside0.mk hs
          clear hs hc
          go_wp2
          go_ret
          exact ⟨by have e_ := HS2.out; subst e_; rfl, HB.out⟩
        | false =>
          rw [if_neg (by rw [hc]; simp)] at hs
          rw [hc] at hlook
          have HS2 := Aside0.mk hs
          clear hs hc
          obtain ⟨D, hD1, hD2, hD3⟩ := HM.out
          have HD3 := Aside0.mk hD3
          clear hD3
          have hkey := Go.Maps.keyOf_int_mk Try.underlying3 hwf
          have hkm : k < maxLen := by unfold maxLen; omega
          go_wp2_with (at_mapUpdate; refine wpList_mapUpdate_own _ rfl _ _ _ 182 rfl 3 4 bm_keyed Try.underlying182 (plainElem Try.prog 4) w.heap.size k D rfl hD1 hkm _ _ _ rfl rfl hkey (.lit (.bool true)) [] (plainElem_bool Try.underlying4 true) ?_; intro w1 hown1 hgrow1)
          obtain ⟨m, rfl⟩ : ∃ m, gk = m + 1 := ⟨gk - 1, by have := Hk.out; omega⟩
          go_roundg m
          case measure => omega
          case rel =>
            refine ⟨k + 1, X :: s, by go_num, ⟨by have := Hk.out; omega⟩, HS2, ⟨?_⟩, ⟨HB.out.grown hgrow1 HB.out.size (fun j hj => by cases hj; exact Nat.le_refl _)⟩⟩
            have hb := BMap.put (v := true) HM.out trivial hD2 HD3.out hown1
            have e : (fun y => if y = X then true else s.contains y) = (fun y => (X :: s).contains y) := by
              funext y
              by_cases e : y = X
              · simp [e]
              · simp [e]
            rw [e] at hb
            exact hb
      · have hltz : ¬ (k : Int) < (l0.length : Int) := by omega
        have hs := HA.out
        rw [List.drop_of_length_le (by omega), unlikeL] at hs
        have HS2 := Aside0.mk hs
        clear hs
        go_wp2
        go_ret
        exact ⟨by have e_ := HS2.out; subst e_; rfl, HB.out⟩
  · rw [if_neg hlen] at h; exact absurd h (by simp)

end Go.Proofs.Ytkloeccbhjngiaa.PFnExactReadHyper
