-- Written by a program of this repo (xprint.py) out of the translation; Lean checks it.
import Derived.Test.YtjhcphcjpndciaaPFnExactTableCapx0
import Derived.Test.YtjhcphcjpndciaaPFnExactTableCapx1
import Derived.Test.YtjhcphcjpndciaaPFnExactTableCapx2
import Derived.Test.YtjhcphcjpndciaaPFnExactTableCapx3
import Derived.Test.YtjhcphcjpndciaaPFnExactTableCapx5
import Derived.Test.YtjhcphcjpndciaaPFnExactTableCapx6
import Derived.Test.YtjhcphcjpndciaaPFnExactTableCapx7
namespace Go.Proofs.Ytjhcphcjpndciaa.PFnExactTableCap
open Go.RowKit Go.Proofs.YtjhcphcjpndciaaW.PrintWords Go.Proofs.YtjhcphcjpndciaaW.PrintLast Go.Proofs.YtjhcphcjpndciaaW.PrintMore
attribute [local go_sem] max2_int min2_int max_two min_two max_three min_three max_four min_four   -- for this text's walks alone
set_option linter.unusedVariables false
set_option linter.unusedSimpArgs false

/-! ### laws_FnExactTableCap: function 9 -/
mutual
def laws_FnExactTableCap.j0 : Nat → Int → Int → Int → Bool → Int → Int → Int → List (S78) → Int → Int → Int → List (S23) → Int → Int → Int → List (S23) → Int → Int → Int → List (S23) → Option (Bool)
  | 0, _, _, _, _, _, _, _, _, _, _, _, _, _, _, _, _, _, _, _, _ => none
  | k + 1, x1, x7, x10, x44, x221000, x221001, x221002, x221003, x236000, x236001, x236002, x236003, x243000, x243001, x243002, x243003, x251000, x251001, x251002, x251003 => if x44 = true then (some false) else ((laws_toTable.f k x221000 x221001 x221002 x221003).bind fun bt252 => ((laws_eqTable.f k x243000 x243001 x243002 x243003 bt252.1 bt252.2.1 bt252.2.2.1 bt252.2.2.2).bind fun t258 => (if t258 = true then ((laws_markTable.f k x243000 x243001 x243002 x243003 1).bind fun bt259 => (if bt259.1 < 0 then (laws_FnExactTableCap.j1 k x1 x7 true x221000 x221001 x221002 x221003 x236000 x236001 x236002 x236003 x251000 x251001 x251002 x251003) else ((laws_eqTable.f k x251000 x251001 x251002 x251003 x236000 x236001 x236002 x236003).bind fun t261 => (if t261 = true then (laws_FnExactTableCap.j1 k x1 x7 (x10 != x7) x221000 x221001 x221002 x221003 x236000 x236001 x236002 x236003 x251000 x251001 x251002 x251003) else (laws_FnExactTableCap.j1 k x1 x7 true x221000 x221001 x221002 x221003 x236000 x236001 x236002 x236003 x251000 x251001 x251002 x251003))))) else (some false))))
def laws_FnExactTableCap.j1 : Nat → Int → Int → Bool → Int → Int → Int → List (S78) → Int → Int → Int → List (S23) → Int → Int → Int → List (S23) → Option (Bool)
  | 0, _, _, _, _, _, _, _, _, _, _, _, _, _, _, _ => none
  | k + 1, x1, x7, x65, x221000, x221001, x221002, x221003, x236000, x236001, x236002, x236003, x251000, x251001, x251002, x251003 => if x65 = true then (some false) else ((laws_markTable.f k x251000 x251001 x251002 x251003 1).bind fun bt262 => ((laws_heldTable.f k x251000 x251001 x251002 bt262.2 1).bind fun t264 => (if t264 < 0 then (some false) else (if t264 = bt262.1 then ((laws_toTable.f k x221000 x221001 x221002 x221003).bind fun bt265 => ((impl_TableCap.f k bt265.1 bt265.2.1 bt265.2.2.1 bt265.2.2.2 x1).bind fun bt271 => ((laws_eqTable.f k bt271.1 bt271.2.1 bt271.2.2.1 bt271.2.2.2.1 x236000 x236001 x236002 x236003).bind fun t279 => (if t279 = true then (laws_FnExactTableCap.j2 k bt262.1 (bt271.2.2.2.2 != x7) x251000 x251001 x251002 bt262.2) else (laws_FnExactTableCap.j2 k bt262.1 true x251000 x251001 x251002 bt262.2))))) else (some false)))))
def laws_FnExactTableCap.j2 : Nat → Int → Bool → Int → Int → Int → List (S23) → Option (Bool)
  | 0, _, _, _, _, _, _ => none
  | k + 1, x12, x92, x251000, x251001, x251002, x251003 => if x92 = true then (some false) else ((laws_heldTable.f k x251000 x251001 x251002 x251003 1).bind fun t280 => (if t280 < 0 then (some false) else (if t280 = x12 then (some true) else (some false))))
end
def laws_FnExactTableCap.f (k : Nat) (a0_0 : Int) (a0_1 : Int) (a0_2 : Int) (l0_3 : List (S78)) (a1 : Int) : Option (Bool) := (laws_szTable.f k a0_0 a0_1 a0_2 l0_3 1048576).bind fun t221 => (if t221 < 0 then (some true) else ((laws_toTable.f k a0_0 a0_1 a0_2 l0_3).bind fun bt222 => ((spec_TableCap.f k bt222.1 bt222.2.1 bt222.2.2.1 bt222.2.2.2 a1).bind fun bt228 => ((laws_toTable.f k a0_0 a0_1 a0_2 l0_3).bind fun bt236 => ((impl_TableCap.f k bt236.1 bt236.2.1 bt236.2.2.1 bt236.2.2.2 a1).bind fun bt243 => ((laws_eqTable.f k bt243.1 bt243.2.1 bt243.2.2.1 bt243.2.2.2.1 bt228.1 bt228.2.1 bt228.2.2.1 bt228.2.2.2.1).bind fun t251 => (if t251 = true then (laws_FnExactTableCap.j0 k a1 bt228.2.2.2.2 bt243.2.2.2.2 (bt243.2.2.2.2 != bt228.2.2.2.2) a0_0 a0_1 a0_2 l0_3 bt228.1 bt228.2.1 bt228.2.2.1 bt228.2.2.2.1 bt236.1 bt236.2.1 bt236.2.2.1 bt236.2.2.2 bt243.1 bt243.2.1 bt243.2.2.1 bt243.2.2.2.1) else (laws_FnExactTableCap.j0 k a1 bt228.2.2.2.2 bt243.2.2.2.2 true a0_0 a0_1 a0_2 l0_3 bt228.1 bt228.2.1 bt228.2.2.1 bt228.2.2.2.1 bt236.1 bt236.2.1 bt236.2.2.1 bt236.2.2.2 bt243.1 bt243.2.1 bt243.2.2.1 bt243.2.2.2.1))))))))
theorem laws_FnExactTableCap.mono_l : ∀ k, (∀ y0 y1 y2 y3 y4 y5 y6 y7 y8 y9 y10 y11 y12 y13 y14 y15 y16 y17 y18 y19, LeO (laws_FnExactTableCap.j0 k y0 y1 y2 y3 y4 y5 y6 y7 y8 y9 y10 y11 y12 y13 y14 y15 y16 y17 y18 y19) (laws_FnExactTableCap.j0 (k + 1) y0 y1 y2 y3 y4 y5 y6 y7 y8 y9 y10 y11 y12 y13 y14 y15 y16 y17 y18 y19)) ∧ (∀ y0 y1 y2 y3 y4 y5 y6 y7 y8 y9 y10 y11 y12 y13 y14, LeO (laws_FnExactTableCap.j1 k y0 y1 y2 y3 y4 y5 y6 y7 y8 y9 y10 y11 y12 y13 y14) (laws_FnExactTableCap.j1 (k + 1) y0 y1 y2 y3 y4 y5 y6 y7 y8 y9 y10 y11 y12 y13 y14)) ∧ (∀ y0 y1 y2 y3 y4 y5, LeO (laws_FnExactTableCap.j2 k y0 y1 y2 y3 y4 y5) (laws_FnExactTableCap.j2 (k + 1) y0 y1 y2 y3 y4 y5))
  | 0 => ⟨fun _ _ _ _ _ _ _ _ _ _ _ _ _ _ _ _ _ _ _ _ r h => by simp [laws_FnExactTableCap.j0] at h, fun _ _ _ _ _ _ _ _ _ _ _ _ _ _ _ r h => by simp [laws_FnExactTableCap.j1] at h, fun _ _ _ _ _ _ r h => by simp [laws_FnExactTableCap.j2] at h⟩
  | k + 1 => by
    obtain ⟨ih0, ih1, ih2⟩ := laws_FnExactTableCap.mono_l k
    refine ⟨?_, ?_, ?_⟩
    · intro y0 y1 y2 y3 y4 y5 y6 y7 y8 y9 y10 y11 y12 y13 y14 y15 y16 y17 y18 y19
      unfold laws_FnExactTableCap.j0
      repeat' first
      | (with_reducible exact ih0 _ _ _ _ _ _ _ _ _ _ _ _ _ _ _ _ _ _ _ _)
      | (with_reducible exact ih1 _ _ _ _ _ _ _ _ _ _ _ _ _ _ _)
      | (with_reducible exact ih2 _ _ _ _ _ _)
      | (with_reducible exact impl_TableCap.mono _ _ _ _ _ _)
      | (with_reducible exact laws_eqTable.mono _ _ _ _ _ _ _ _ _)
      | (with_reducible exact laws_heldTable.mono _ _ _ _ _ _)
      | (with_reducible exact laws_markTable.mono _ _ _ _ _ _)
      | (with_reducible exact laws_szTable.mono _ _ _ _ _ _)
      | (with_reducible exact laws_toTable.mono _ _ _ _ _)
      | (with_reducible exact spec_TableCap.mono _ _ _ _ _ _)
      | (with_reducible exact LeO.refl _)
      | (with_reducible exact LeO.none _)
      | (with_reducible refine LeO.ite ?_ ?_)
      | (with_reducible refine LeO.bind ?_ (fun _ => ?_))
      | exact ih0 _ _ _ _ _ _ _ _ _ _ _ _ _ _ _ _ _ _ _ _
      | exact ih1 _ _ _ _ _ _ _ _ _ _ _ _ _ _ _
      | exact ih2 _ _ _ _ _ _
      | exact impl_TableCap.mono _ _ _ _ _ _
      | exact laws_eqTable.mono _ _ _ _ _ _ _ _ _
      | exact laws_heldTable.mono _ _ _ _ _ _
      | exact laws_markTable.mono _ _ _ _ _ _
      | exact laws_szTable.mono _ _ _ _ _ _
      | exact laws_toTable.mono _ _ _ _ _
      | exact spec_TableCap.mono _ _ _ _ _ _
      | exact LeO.none _
      | refine LeO.ite ?_ ?_
      | refine LeO.bind ?_ (fun _ => ?_)
    · intro y0 y1 y2 y3 y4 y5 y6 y7 y8 y9 y10 y11 y12 y13 y14
      unfold laws_FnExactTableCap.j1
      repeat' first
      | (with_reducible exact ih0 _ _ _ _ _ _ _ _ _ _ _ _ _ _ _ _ _ _ _ _)
      | (with_reducible exact ih1 _ _ _ _ _ _ _ _ _ _ _ _ _ _ _)
      | (with_reducible exact ih2 _ _ _ _ _ _)
      | (with_reducible exact impl_TableCap.mono _ _ _ _ _ _)
      | (with_reducible exact laws_eqTable.mono _ _ _ _ _ _ _ _ _)
      | (with_reducible exact laws_heldTable.mono _ _ _ _ _ _)
      | (with_reducible exact laws_markTable.mono _ _ _ _ _ _)
      | (with_reducible exact laws_szTable.mono _ _ _ _ _ _)
      | (with_reducible exact laws_toTable.mono _ _ _ _ _)
      | (with_reducible exact spec_TableCap.mono _ _ _ _ _ _)
      | (with_reducible exact LeO.refl _)
      | (with_reducible exact LeO.none _)
      | (with_reducible refine LeO.ite ?_ ?_)
      | (with_reducible refine LeO.bind ?_ (fun _ => ?_))
      | exact ih0 _ _ _ _ _ _ _ _ _ _ _ _ _ _ _ _ _ _ _ _
      | exact ih1 _ _ _ _ _ _ _ _ _ _ _ _ _ _ _
      | exact ih2 _ _ _ _ _ _
      | exact impl_TableCap.mono _ _ _ _ _ _
      | exact laws_eqTable.mono _ _ _ _ _ _ _ _ _
      | exact laws_heldTable.mono _ _ _ _ _ _
      | exact laws_markTable.mono _ _ _ _ _ _
      | exact laws_szTable.mono _ _ _ _ _ _
      | exact laws_toTable.mono _ _ _ _ _
      | exact spec_TableCap.mono _ _ _ _ _ _
      | exact LeO.none _
      | refine LeO.ite ?_ ?_
      | refine LeO.bind ?_ (fun _ => ?_)
    · intro y0 y1 y2 y3 y4 y5
      unfold laws_FnExactTableCap.j2
      repeat' first
      | (with_reducible exact ih0 _ _ _ _ _ _ _ _ _ _ _ _ _ _ _ _ _ _ _ _)
      | (with_reducible exact ih1 _ _ _ _ _ _ _ _ _ _ _ _ _ _ _)
      | (with_reducible exact ih2 _ _ _ _ _ _)
      | (with_reducible exact impl_TableCap.mono _ _ _ _ _ _)
      | (with_reducible exact laws_eqTable.mono _ _ _ _ _ _ _ _ _)
      | (with_reducible exact laws_heldTable.mono _ _ _ _ _ _)
      | (with_reducible exact laws_markTable.mono _ _ _ _ _ _)
      | (with_reducible exact laws_szTable.mono _ _ _ _ _ _)
      | (with_reducible exact laws_toTable.mono _ _ _ _ _)
      | (with_reducible exact spec_TableCap.mono _ _ _ _ _ _)
      | (with_reducible exact LeO.refl _)
      | (with_reducible exact LeO.none _)
      | (with_reducible refine LeO.ite ?_ ?_)
      | (with_reducible refine LeO.bind ?_ (fun _ => ?_))
      | exact ih0 _ _ _ _ _ _ _ _ _ _ _ _ _ _ _ _ _ _ _ _
      | exact ih1 _ _ _ _ _ _ _ _ _ _ _ _ _ _ _
      | exact ih2 _ _ _ _ _ _
      | exact impl_TableCap.mono _ _ _ _ _ _
      | exact laws_eqTable.mono _ _ _ _ _ _ _ _ _
      | exact laws_heldTable.mono _ _ _ _ _ _
      | exact laws_markTable.mono _ _ _ _ _ _
      | exact laws_szTable.mono _ _ _ _ _ _
      | exact laws_toTable.mono _ _ _ _ _
      | exact spec_TableCap.mono _ _ _ _ _ _
      | exact LeO.none _
      | refine LeO.ite ?_ ?_
      | refine LeO.bind ?_ (fun _ => ?_)
theorem laws_FnExactTableCap.mono : ∀ a0 a1 a2 a3 a4 k, LeO (laws_FnExactTableCap.f k a0 a1 a2 a3 a4) (laws_FnExactTableCap.f (k + 1) a0 a1 a2 a3 a4) := by
  intro a0 a1 a2 a3 a4 k
  obtain ⟨ih0, ih1, ih2⟩ := laws_FnExactTableCap.mono_l k
  unfold laws_FnExactTableCap.f
  repeat' first
      | (with_reducible exact ih0 _ _ _ _ _ _ _ _ _ _ _ _ _ _ _ _ _ _ _ _)
      | (with_reducible exact ih1 _ _ _ _ _ _ _ _ _ _ _ _ _ _ _)
      | (with_reducible exact ih2 _ _ _ _ _ _)
      | (with_reducible exact impl_TableCap.mono _ _ _ _ _ _)
      | (with_reducible exact laws_eqTable.mono _ _ _ _ _ _ _ _ _)
      | (with_reducible exact laws_heldTable.mono _ _ _ _ _ _)
      | (with_reducible exact laws_markTable.mono _ _ _ _ _ _)
      | (with_reducible exact laws_szTable.mono _ _ _ _ _ _)
      | (with_reducible exact laws_toTable.mono _ _ _ _ _)
      | (with_reducible exact spec_TableCap.mono _ _ _ _ _ _)
      | (with_reducible exact LeO.refl _)
      | (with_reducible exact LeO.none _)
      | (with_reducible refine LeO.ite ?_ ?_)
      | (with_reducible refine LeO.bind ?_ (fun _ => ?_))
      | exact ih0 _ _ _ _ _ _ _ _ _ _ _ _ _ _ _ _ _ _ _ _
      | exact ih1 _ _ _ _ _ _ _ _ _ _ _ _ _ _ _
      | exact ih2 _ _ _ _ _ _
      | exact impl_TableCap.mono _ _ _ _ _ _
      | exact laws_eqTable.mono _ _ _ _ _ _ _ _ _
      | exact laws_heldTable.mono _ _ _ _ _ _
      | exact laws_markTable.mono _ _ _ _ _ _
      | exact laws_szTable.mono _ _ _ _ _ _
      | exact laws_toTable.mono _ _ _ _ _
      | exact spec_TableCap.mono _ _ _ _ _ _
      | exact LeO.none _
      | refine LeO.ite ?_ ?_
      | refine LeO.bind ?_ (fun _ => ?_)
set_option maxHeartbeats 8000000 in
set_option maxRecDepth 100000 in
theorem laws_FnExactTableCap.calls (k : Nat) (a0_0 : Int) (a0_1 : Int) (a0_2 : Int) (A0_3 : Option Addr) (c0_3 : Nat) (l0_3 : List (S78)) (a1 : Int) (r : Bool) (w : World) (hr0_3 : Kd.C k78 w A0_3 l0_3.length l0_3) (hc0_3 : l0_3.length ≤ c0_3) (h : laws_FnExactTableCap.f k a0_0 a0_1 a0_2 l0_3 a1 = some r) :
    Calls Try.prog 9 #[.agg #[.int .i64 a0_0, .int .i64 a0_1, .int .i64 a0_2, .slice A0_3 l0_3.length c0_3], .int .i64 a1] w fun e w' => e = .returned (.bool r) ∧ Below w.heap.size w w' := by
  have hu64 := Try.underlying64
  have hu69 := Try.underlying69
  have HR0_3 := Aside0.mk hr0_3
  have HC0_3 := Aside0.mk hc0_3
  clear hr0_3 hc0_3
  have HB := Aside0.mk (Below.refl w.heap.size w)
  have H : ((laws_szTable.f k a0_0 a0_1 a0_2 l0_3 1048576).bind fun t221 => (if t221 < 0 then (some true) else ((laws_toTable.f k a0_0 a0_1 a0_2 l0_3).bind fun bt222 => ((spec_TableCap.f k bt222.1 bt222.2.1 bt222.2.2.1 bt222.2.2.2 a1).bind fun bt228 => ((laws_toTable.f k a0_0 a0_1 a0_2 l0_3).bind fun bt236 => ((impl_TableCap.f k bt236.1 bt236.2.1 bt236.2.2.1 bt236.2.2.2 a1).bind fun bt243 => ((laws_eqTable.f k bt243.1 bt243.2.1 bt243.2.2.1 bt243.2.2.2.1 bt228.1 bt228.2.1 bt228.2.2.1 bt228.2.2.2.1).bind fun t251 => (if t251 = true then (laws_FnExactTableCap.j0 k a1 bt228.2.2.2.2 bt243.2.2.2.2 (bt243.2.2.2.2 != bt228.2.2.2.2) a0_0 a0_1 a0_2 l0_3 bt228.1 bt228.2.1 bt228.2.2.1 bt228.2.2.2.1 bt236.1 bt236.2.1 bt236.2.2.1 bt236.2.2.2 bt243.1 bt243.2.1 bt243.2.2.1 bt243.2.2.2.1) else (laws_FnExactTableCap.j0 k a1 bt228.2.2.2.2 bt243.2.2.2.2 true a0_0 a0_1 a0_2 l0_3 bt228.1 bt228.2.1 bt228.2.2.1 bt228.2.2.2.1 bt236.1 bt236.2.1 bt236.2.2.1 bt236.2.2.2 bt243.1 bt243.2.1 bt243.2.2.1 bt243.2.2.2.1))))))))) = some r := h
  clear h
  replace H := Option.bind_eq_some_iff.mp H
  obtain ⟨t221, A30, H⟩ := H
  replace H : (if t221 < 0 then (some true) else ((laws_toTable.f k a0_0 a0_1 a0_2 l0_3).bind fun bt222 => ((spec_TableCap.f k bt222.1 bt222.2.1 bt222.2.2.1 bt222.2.2.2 a1).bind fun bt228 => ((laws_toTable.f k a0_0 a0_1 a0_2 l0_3).bind fun bt236 => ((impl_TableCap.f k bt236.1 bt236.2.1 bt236.2.2.1 bt236.2.2.2 a1).bind fun bt243 => ((laws_eqTable.f k bt243.1 bt243.2.1 bt243.2.2.1 bt243.2.2.2.1 bt228.1 bt228.2.1 bt228.2.2.1 bt228.2.2.2.1).bind fun t251 => (if t251 = true then (laws_FnExactTableCap.j0 k a1 bt228.2.2.2.2 bt243.2.2.2.2 (bt243.2.2.2.2 != bt228.2.2.2.2) a0_0 a0_1 a0_2 l0_3 bt228.1 bt228.2.1 bt228.2.2.1 bt228.2.2.2.1 bt236.1 bt236.2.1 bt236.2.2.1 bt236.2.2.2 bt243.1 bt243.2.1 bt243.2.2.1 bt243.2.2.2.1) else (laws_FnExactTableCap.j0 k a1 bt228.2.2.2.2 bt243.2.2.2.2 true a0_0 a0_1 a0_2 l0_3 bt228.1 bt228.2.1 bt228.2.2.1 bt228.2.2.2.1 bt236.1 bt236.2.1 bt236.2.2.1 bt236.2.2.2 bt243.1 bt243.2.1 bt243.2.2.1 bt243.2.2.2.1)))))))) = some r := H
  have A3 := Aside0.mk A30
  clear A30
  by_cases c4 : t221 < 0
  · rw [if_pos c4] at H
    have c4b0 : decide (t221 < 0) = true := decide_eq_true c4
    clear c4
    obtain rfl := Option.some.inj H
    go_enter Try.func9, Try.ntmps9
    go_wp2_with (first | ((with_reducible refine gate_dst (N := 2) rfl ?_); refine box_event ?hg (N := 2) ?hd (cs := #[.int .i64 a0_0, .int .i64 a0_1, .int .i64 a0_2, .slice A0_3 l0_3.length c0_3]) (t := 64) ?hr ?_; (case hd => rfl); (case hg => rfl); (case hr => first | (go_simp; done) | (go_simp; rfl)); intro gb220 hg w5 hbox hb; have n0_ := Aside0.mk (below_step (by repeat (first | (with_reducible first | exact HB.out | apply below_alloc | apply pw_below_drewN | apply below_drew1) | exact HB.out)) hb); have n1_ := Aside0.mk (hbox); have n2_ := Aside0.mk ((by rw [hg]; exact (below_size (by repeat (first | (with_reducible first | exact HB.out | apply below_alloc | apply pw_below_drewN | apply below_drew1) | exact HB.out))) : w.heap.size ≤ gb220)); have n3_ := Aside0.mk ((by rw [hg]; exact (below_size (by repeat (first | (with_reducible first | exact HB.out | apply below_alloc | apply pw_below_drewN | apply below_drew1) | exact HB.out))) : w.heap.size ≤ gb220)); clear HB; have HB := n0_; have BK220 := n1_; have GW220 := n2_; have GE220 := n3_; clear n0_ n1_ n2_ n3_; clear hb hbox hg; have hcz6_0 : w5.cell? ⟨gb220, 0, none⟩ = some (.int .i64 a0_0) := (blk_cell BK220.out 0).trans rfl; have hcz6_1 : w5.cell? ⟨gb220, 1, none⟩ = some (.int .i64 a0_1) := (blk_cell BK220.out 1).trans rfl; have hcz6_2 : w5.cell? ⟨gb220, 2, none⟩ = some (.int .i64 a0_2) := (blk_cell BK220.out 2).trans rfl; have hcz6_3 : w5.cell? ⟨gb220, 3, none⟩ = some (.slice A0_3 l0_3.length c0_3) := (blk_cell BK220.out 3).trans rfl; have hfz6_0 := blk_frozen BK220.out 0; have hfz6_1 := blk_frozen BK220.out 1; have hfz6_2 := blk_frozen BK220.out 2; have hfz6_3 := blk_frozen BK220.out 3) | ((with_reducible refine gate_callee (f := 38) rfl ?_); refine goesL_ (some 18) rfl rfl Try.func38 (by kernel_rfl) rfl #[.agg #[.int .i64 a0_0, .int .i64 a0_1, .int .i64 a0_2, .slice A0_3 l0_3.length c0_3], .int .i64 1048576] rfl (by (try simp only [List.map_toArray, List.map_cons, List.map_nil]); first | done | rfl | (simp only [List.length_drop, List.length_take]; rfl)) ?_; (with_reducible refine (laws_szTable.calls k a0_0 a0_1 a0_2 _ _ l0_3 1048576 t221 _ ?side1 ?side2 A3.out).mono ?_); (case side1 => repeat (first | exact (Kd.C_below HR0_3.out HB.out) | (with_reducible refine Kd.C_alloc ?_ _) | (with_reducible refine Kd.C_drewN ?_ _) | (with_reducible refine Kd.C_drew ?_))); (case side2 => exact HC0_3.out); rintro e w7 ⟨rfl, hb⟩; refine ⟨_, rfl, ?_⟩; have n0_ := Aside0.mk (blk_below (g := gb220) (o := .cells #[.int .i64 a0_0, .int .i64 a0_1, .int .i64 a0_2, .slice A0_3 l0_3.length c0_3] 64 (0, 0)) (by (with_reducible repeat (first | refine blk_drewN ?_ _ | refine blk_drew ?_ | refine blk_alloc ?_ _)); exact BK220.out) hb); have n1_ := Aside0.mk (below_step (by repeat (first | (with_reducible first | exact HB.out | apply below_alloc | apply pw_below_drewN | apply below_drew1 | refine below_set ?_ GE220.out) | exact HB.out)) hb); clear BK220; clear HB; have BK220 := n0_; have HB := n1_; clear n0_ n1_; (try clear hb); (try clear hb2); (try clear hk); (try clear hi)))
    go_ret
    exact ⟨by first | rfl | (simp [errW_none, errW_some] <;> rfl) | (simp [*, errW_none, errW_some] <;> rfl), by repeat (first | (with_reducible first | exact HB.out | apply below_alloc | apply pw_below_drewN | apply below_drew1 | refine below_set ?_ GE220.out) | exact HB.out)⟩
  · rw [if_neg c4] at H
    have c4b0 : decide (t221 < 0) = false := decide_eq_false c4
    clear c4
    replace H := Option.bind_eq_some_iff.mp H
    obtain ⟨⟨t222, t223, t224, t225⟩, A80, H⟩ := H
    replace H : ((spec_TableCap.f k t222 t223 t224 t225 a1).bind fun bt228 => ((laws_toTable.f k a0_0 a0_1 a0_2 l0_3).bind fun bt236 => ((impl_TableCap.f k bt236.1 bt236.2.1 bt236.2.2.1 bt236.2.2.2 a1).bind fun bt243 => ((laws_eqTable.f k bt243.1 bt243.2.1 bt243.2.2.1 bt243.2.2.2.1 bt228.1 bt228.2.1 bt228.2.2.1 bt228.2.2.2.1).bind fun t251 => (if t251 = true then (laws_FnExactTableCap.j0 k a1 bt228.2.2.2.2 bt243.2.2.2.2 (bt243.2.2.2.2 != bt228.2.2.2.2) a0_0 a0_1 a0_2 l0_3 bt228.1 bt228.2.1 bt228.2.2.1 bt228.2.2.2.1 bt236.1 bt236.2.1 bt236.2.2.1 bt236.2.2.2 bt243.1 bt243.2.1 bt243.2.2.1 bt243.2.2.2.1) else (laws_FnExactTableCap.j0 k a1 bt228.2.2.2.2 bt243.2.2.2.2 true a0_0 a0_1 a0_2 l0_3 bt228.1 bt228.2.1 bt228.2.2.1 bt228.2.2.2.1 bt236.1 bt236.2.1 bt236.2.2.1 bt236.2.2.2 bt243.1 bt243.2.1 bt243.2.2.1 bt243.2.2.2.1)))))) = some r := H
    have A8 := Aside0.mk A80
    clear A80
    replace H := Option.bind_eq_some_iff.mp H
    obtain ⟨⟨t228, t229, t230, t231, t234⟩, A90, H⟩ := H
    replace H : ((laws_toTable.f k a0_0 a0_1 a0_2 l0_3).bind fun bt236 => ((impl_TableCap.f k bt236.1 bt236.2.1 bt236.2.2.1 bt236.2.2.2 a1).bind fun bt243 => ((laws_eqTable.f k bt243.1 bt243.2.1 bt243.2.2.1 bt243.2.2.2.1 t228 t229 t230 t231).bind fun t251 => (if t251 = true then (laws_FnExactTableCap.j0 k a1 t234 bt243.2.2.2.2 (bt243.2.2.2.2 != t234) a0_0 a0_1 a0_2 l0_3 t228 t229 t230 t231 bt236.1 bt236.2.1 bt236.2.2.1 bt236.2.2.2 bt243.1 bt243.2.1 bt243.2.2.1 bt243.2.2.2.1) else (laws_FnExactTableCap.j0 k a1 t234 bt243.2.2.2.2 true a0_0 a0_1 a0_2 l0_3 t228 t229 t230 t231 bt236.1 bt236.2.1 bt236.2.2.1 bt236.2.2.2 bt243.1 bt243.2.1 bt243.2.2.1 bt243.2.2.2.1))))) = some r := H
    have A9 := Aside0.mk A90
    clear A90
    replace H := Option.bind_eq_some_iff.mp H
    obtain ⟨⟨t236, t237, t238, t239⟩, A100, H⟩ := H
    replace H : ((impl_TableCap.f k t236 t237 t238 t239 a1).bind fun bt243 => ((laws_eqTable.f k bt243.1 bt243.2.1 bt243.2.2.1 bt243.2.2.2.1 t228 t229 t230 t231).bind fun t251 => (if t251 = true then (laws_FnExactTableCap.j0 k a1 t234 bt243.2.2.2.2 (bt243.2.2.2.2 != t234) a0_0 a0_1 a0_2 l0_3 t228 t229 t230 t231 t236 t237 t238 t239 bt243.1 bt243.2.1 bt243.2.2.1 bt243.2.2.2.1) else (laws_FnExactTableCap.j0 k a1 t234 bt243.2.2.2.2 true a0_0 a0_1 a0_2 l0_3 t228 t229 t230 t231 t236 t237 t238 t239 bt243.1 bt243.2.1 bt243.2.2.1 bt243.2.2.2.1)))) = some r := H
    have A10 := Aside0.mk A100
    clear A100
    replace H := Option.bind_eq_some_iff.mp H
    obtain ⟨⟨t243, t244, t245, t246, t249⟩, A110, H⟩ := H
    replace H : ((laws_eqTable.f k t243 t244 t245 t246 t228 t229 t230 t231).bind fun t251 => (if t251 = true then (laws_FnExactTableCap.j0 k a1 t234 t249 (t249 != t234) a0_0 a0_1 a0_2 l0_3 t228 t229 t230 t231 t236 t237 t238 t239 t243 t244 t245 t246) else (laws_FnExactTableCap.j0 k a1 t234 t249 true a0_0 a0_1 a0_2 l0_3 t228 t229 t230 t231 t236 t237 t238 t239 t243 t244 t245 t246))) = some r := H
    have A11 := Aside0.mk A110
    clear A110
    have HC12 := Aside0.mk H
    clear H
    go_enter Try.func9, Try.ntmps9
    go_upto_region 8 with (first | ((with_reducible refine gate_dst (N := 2) rfl ?_); refine box_event ?hg (N := 2) ?hd (cs := #[.int .i64 a0_0, .int .i64 a0_1, .int .i64 a0_2, .slice A0_3 l0_3.length c0_3]) (t := 64) ?hr ?_; (case hd => rfl); (case hg => rfl); (case hr => first | (go_simp; done) | (go_simp; rfl)); intro gb220 hg w13 hbox hb; have n0_ := Aside0.mk (below_step (by repeat (first | (with_reducible first | exact HB.out | apply below_alloc | apply pw_below_drewN | apply below_drew1) | exact HB.out)) hb); have n1_ := Aside0.mk (hbox); have n2_ := Aside0.mk ((by rw [hg]; exact (below_size (by repeat (first | (with_reducible first | exact HB.out | apply below_alloc | apply pw_below_drewN | apply below_drew1) | exact HB.out))) : w.heap.size ≤ gb220)); have n3_ := Aside0.mk ((by rw [hg]; exact (below_size (by repeat (first | (with_reducible first | exact HB.out | apply below_alloc | apply pw_below_drewN | apply below_drew1) | exact HB.out))) : w.heap.size ≤ gb220)); clear HB; have HB := n0_; have BK220 := n1_; have GW220 := n2_; have GE220 := n3_; clear n0_ n1_ n2_ n3_; clear hb hbox hg; have hcz14_0 : w13.cell? ⟨gb220, 0, none⟩ = some (.int .i64 a0_0) := (blk_cell BK220.out 0).trans rfl; have hcz14_1 : w13.cell? ⟨gb220, 1, none⟩ = some (.int .i64 a0_1) := (blk_cell BK220.out 1).trans rfl; have hcz14_2 : w13.cell? ⟨gb220, 2, none⟩ = some (.int .i64 a0_2) := (blk_cell BK220.out 2).trans rfl; have hcz14_3 : w13.cell? ⟨gb220, 3, none⟩ = some (.slice A0_3 l0_3.length c0_3) := (blk_cell BK220.out 3).trans rfl; have hfz14_0 := blk_frozen BK220.out 0; have hfz14_1 := blk_frozen BK220.out 1; have hfz14_2 := blk_frozen BK220.out 2; have hfz14_3 := blk_frozen BK220.out 3) | ((with_reducible refine gate_callee (f := 38) rfl ?_); refine goesL_ (some 18) rfl rfl Try.func38 (by kernel_rfl) rfl #[.agg #[.int .i64 a0_0, .int .i64 a0_1, .int .i64 a0_2, .slice A0_3 l0_3.length c0_3], .int .i64 1048576] rfl (by (try simp only [List.map_toArray, List.map_cons, List.map_nil]); first | done | rfl | (simp only [List.length_drop, List.length_take]; rfl)) ?_; (with_reducible refine (laws_szTable.calls k a0_0 a0_1 a0_2 _ _ l0_3 1048576 t221 _ ?side1 ?side2 A3.out).mono ?_); (case side1 => repeat (first | exact (Kd.C_below HR0_3.out HB.out) | (with_reducible refine Kd.C_alloc ?_ _) | (with_reducible refine Kd.C_drewN ?_ _) | (with_reducible refine Kd.C_drew ?_))); (case side2 => exact HC0_3.out); rintro e w15 ⟨rfl, hb⟩; refine ⟨_, rfl, ?_⟩; have n0_ := Aside0.mk (blk_below (g := gb220) (o := .cells #[.int .i64 a0_0, .int .i64 a0_1, .int .i64 a0_2, .slice A0_3 l0_3.length c0_3] 64 (0, 0)) (by (with_reducible repeat (first | refine blk_drewN ?_ _ | refine blk_drew ?_ | refine blk_alloc ?_ _)); exact BK220.out) hb); have n1_ := Aside0.mk (below_step (by repeat (first | (with_reducible first | exact HB.out | apply below_alloc | apply pw_below_drewN | apply below_drew1 | refine below_set ?_ GE220.out) | exact HB.out)) hb); clear BK220; clear HB; have BK220 := n0_; have HB := n1_; clear n0_ n1_; (try clear hb); (try clear hb2); (try clear hk); (try clear hi); have hcz16_0 : w15.cell? ⟨gb220, 0, none⟩ = some (.int .i64 a0_0) := (blk_cell BK220.out 0).trans rfl; have hcz16_1 : w15.cell? ⟨gb220, 1, none⟩ = some (.int .i64 a0_1) := (blk_cell BK220.out 1).trans rfl; have hcz16_2 : w15.cell? ⟨gb220, 2, none⟩ = some (.int .i64 a0_2) := (blk_cell BK220.out 2).trans rfl; have hcz16_3 : w15.cell? ⟨gb220, 3, none⟩ = some (.slice A0_3 l0_3.length c0_3) := (blk_cell BK220.out 3).trans rfl; have hfz16_0 := blk_frozen BK220.out 0; have hfz16_1 := blk_frozen BK220.out 1; have hfz16_2 := blk_frozen BK220.out 2; have hfz16_3 := blk_frozen BK220.out 3) | ((with_reducible refine gate_callee (f := 40) rfl ?_); refine goesL_ (some 23) rfl rfl Try.func40 (by kernel_rfl) rfl #[.agg #[.int .i64 a0_0, .int .i64 a0_1, .int .i64 a0_2, .slice A0_3 l0_3.length c0_3]] rfl (by (try simp only [List.map_toArray, List.map_cons, List.map_nil]); first | done | rfl | (simp only [List.length_drop, List.length_take]; rfl)) ?_; (with_reducible refine (laws_toTable.calls k a0_0 a0_1 a0_2 _ _ l0_3 t222 t223 t224 t225 _ ?side1 ?side2 A8.out).mono ?_); (case side1 => repeat (first | exact (Kd.C_below HR0_3.out HB.out) | (with_reducible refine Kd.C_alloc ?_ _) | (with_reducible refine Kd.C_drewN ?_ _) | (with_reducible refine Kd.C_drew ?_))); (case side2 => exact HC0_3.out); rintro e w17 ⟨v226, rfl, ho0, hb⟩; refine ⟨_, rfl, ?_⟩; have n0_ := Aside0.mk (Kd.R_lower ho0 (below_size (by repeat (first | (with_reducible first | exact HB.out | apply below_alloc | apply pw_below_drewN | apply below_drew1 | refine below_set ?_ GE220.out) | exact HB.out)))); have n1_ := Aside0.mk (blk_below (g := gb220) (o := .cells #[.int .i64 a0_0, .int .i64 a0_1, .int .i64 a0_2, .slice A0_3 l0_3.length c0_3] 64 (0, 0)) (by (with_reducible repeat (first | refine blk_drewN ?_ _ | refine blk_drew ?_ | refine blk_alloc ?_ _)); exact BK220.out) hb); have n2_ := Aside0.mk (below_step (by repeat (first | (with_reducible first | exact HB.out | apply below_alloc | apply pw_below_drewN | apply below_drew1 | refine below_set ?_ GE220.out) | exact HB.out)) hb); clear BK220; clear HB; have HO227 := n0_; have BK220 := n1_; have HB := n2_; clear n0_ n1_ n2_; (try clear hb); (try clear hb2); (try clear hk); (try clear hi); (try clear ho0); obtain ⟨Ao18, co18, eo18⟩ := Kd.R_slice HO227.out; subst eo18) | ((with_reducible refine gate_callee (f := 45) rfl ?_); refine goesL_ (some 25) rfl rfl Try.func45 (by kernel_rfl) rfl #[.agg #[.int .i64 t222, .int .i64 t223, .int .i64 t224, .slice Ao18 t225.length co18], .int .i64 a1] rfl (by (try simp only [List.map_toArray, List.map_cons, List.map_nil]); first | done | rfl | (simp only [List.length_drop, List.length_take]; rfl)) ?_; (with_reducible refine (spec_TableCap.calls k t222 t223 t224 _ _ t225 a1 t228 t229 t230 t231 t234 _ ?side1 ?side2 A9.out).mono ?_); (case side1 => repeat (first | exact (Kd.R_reads' HO227.out).2.2 | (with_reducible refine Kd.C_alloc ?_ _) | (with_reducible refine Kd.C_drewN ?_ _) | (with_reducible refine Kd.C_drew ?_))); (case side2 => exact (Kd.R_reads' HO227.out).2.1); rintro e w19 ⟨v232, rfl, ho0, hb⟩; refine ⟨_, rfl, ?_⟩; have n0_ := Aside0.mk (Kd.R_elder' (by (with_reducible repeat (first | apply Kd.R_alloc | apply Kd.R_drewN | apply Kd.R_drew)); exact HO227.out) (Kd.R_base ho0) hb); have n1_ := Aside0.mk (Kd.R_lower (Kd.R_new' ho0 (Kd.R_lt (by (with_reducible repeat (first | apply Kd.R_alloc | apply Kd.R_drewN | apply Kd.R_drew)); exact HO227.out))) (below_size (by repeat (first | (with_reducible first | exact HB.out | apply below_alloc | apply pw_below_drewN | apply below_drew1 | refine below_set ?_ GE220.out) | exact HB.out)))); have n2_ := Aside0.mk (blk_below (g := gb220) (o := .cells #[.int .i64 a0_0, .int .i64 a0_1, .int .i64 a0_2, .slice A0_3 l0_3.length c0_3] 64 (0, 0)) (by (with_reducible repeat (first | refine blk_drewN ?_ _ | refine blk_drew ?_ | refine blk_alloc ?_ _)); exact BK220.out) hb); have n3_ := Aside0.mk (below_step (by repeat (first | (with_reducible first | exact HB.out | apply below_alloc | apply pw_below_drewN | apply below_drew1 | refine below_set ?_ GE220.out) | exact HB.out)) hb); clear HO227; clear BK220; clear HB; have HO227 := n0_; have HO233 := n1_; have BK220 := n2_; have HB := n3_; clear n0_ n1_ n2_ n3_; (try clear hb); (try clear hb2); (try clear hk); (try clear hi); (try clear ho0)) | ((with_reducible refine gate_dst (N := 6) rfl ?_); refine box_event ?hg (N := 6) ?hd (cs := #[.int .i64 0, .int .i64 0, .int .i64 0, .slice none 0 0]) (t := 69) ?hr ?_; (case hd => rfl); (case hg => rfl); (case hr => first | (go_simp; done) | (go_simp; rfl)); intro gb235 hg w20 hbox hb; have n0_ := Aside0.mk (Kd.R_below (by (with_reducible repeat (first | apply Kd.R_alloc | apply Kd.R_drewN | apply Kd.R_drew)); exact HO227.out) hb); have n1_ := Aside0.mk (Kd.R_below (by (with_reducible repeat (first | apply Kd.R_alloc | apply Kd.R_drewN | apply Kd.R_drew)); exact HO233.out) hb); have n2_ := Aside0.mk (blk_below (g := gb220) (o := .cells #[.int .i64 a0_0, .int .i64 a0_1, .int .i64 a0_2, .slice A0_3 l0_3.length c0_3] 64 (0, 0)) (by (with_reducible repeat (first | refine blk_drewN ?_ _ | refine blk_drew ?_ | refine blk_alloc ?_ _)); exact BK220.out) hb); have n3_ := Aside0.mk (below_step (by repeat (first | (with_reducible first | exact HB.out | apply below_alloc | apply pw_below_drewN | apply below_drew1 | refine below_set ?_ GE220.out) | exact HB.out)) hb); have n4_ := Aside0.mk (hbox); have n5_ := Aside0.mk ((by rw [hg]; exact (below_size (by repeat (first | (with_reducible first | exact HB.out | apply below_alloc | apply pw_below_drewN | apply below_drew1 | refine below_set ?_ GE220.out) | exact HB.out))) : w.heap.size ≤ gb235)); have n6_ := Aside0.mk ((by rw [hg]; exact (below_size (by repeat (first | (with_reducible first | exact HB.out | apply below_alloc | apply pw_below_drewN | apply below_drew1 | refine below_set ?_ GE220.out) | exact HB.out))) : w.heap.size ≤ gb235)); have n7_ := Aside0.mk ((by rw [hg]; exact Nat.ne_of_lt (blk_lt (g := gb220) (o := .cells #[.int .i64 a0_0, .int .i64 a0_1, .int .i64 a0_2, .slice A0_3 l0_3.length c0_3] 64 (0, 0)) (by (with_reducible repeat (first | refine blk_drewN ?_ _ | refine blk_drew ?_ | refine blk_alloc ?_ _)); exact BK220.out)) : gb220 ≠ gb235)); have n8_ := Aside0.mk ((by rw [hg]; exact Nat.ne_of_gt (blk_lt (g := gb220) (o := .cells #[.int .i64 a0_0, .int .i64 a0_1, .int .i64 a0_2, .slice A0_3 l0_3.length c0_3] 64 (0, 0)) (by (with_reducible repeat (first | refine blk_drewN ?_ _ | refine blk_drew ?_ | refine blk_alloc ?_ _)); exact BK220.out)) : gb235 ≠ gb220)); clear HO227; clear HO233; clear BK220; clear HB; have HO227 := n0_; have HO233 := n1_; have BK220 := n2_; have HB := n3_; have BK235 := n4_; have GW235 := n5_; have GE235 := n6_; have NB220_235 := n7_; have NB235_220 := n8_; clear n0_ n1_ n2_ n3_ n4_ n5_ n6_ n7_ n8_; clear hb hbox hg; have hnb21 := NB235_220.out; have hnc21 := NB220_235.out; have hcz22_0 : w20.cell? ⟨gb235, 0, none⟩ = some (.int .i64 0) := (blk_cell BK235.out 0).trans rfl; have hcz22_1 : w20.cell? ⟨gb235, 1, none⟩ = some (.int .i64 0) := (blk_cell BK235.out 1).trans rfl; have hcz22_2 : w20.cell? ⟨gb235, 2, none⟩ = some (.int .i64 0) := (blk_cell BK235.out 2).trans rfl; have hcz22_3 : w20.cell? ⟨gb235, 3, none⟩ = some (.slice none 0 0) := (blk_cell BK235.out 3).trans rfl; have hfz22_0 := blk_frozen BK235.out 0; have hfz22_1 := blk_frozen BK235.out 1; have hfz22_2 := blk_frozen BK235.out 2; have hfz22_3 := blk_frozen BK235.out 3; obtain ⟨Ao23, co23, eo23⟩ := Kd.R_slice HO233.out; subst eo23; have hcz24_0 : w20.cell? ⟨gb220, 0, none⟩ = some (.int .i64 a0_0) := (blk_cell BK220.out 0).trans rfl; have hcz24_1 : w20.cell? ⟨gb220, 1, none⟩ = some (.int .i64 a0_1) := (blk_cell BK220.out 1).trans rfl; have hcz24_2 : w20.cell? ⟨gb220, 2, none⟩ = some (.int .i64 a0_2) := (blk_cell BK220.out 2).trans rfl; have hcz24_3 : w20.cell? ⟨gb220, 3, none⟩ = some (.slice A0_3 l0_3.length c0_3) := (blk_cell BK220.out 3).trans rfl; have hfz24_0 := blk_frozen BK220.out 0; have hfz24_1 := blk_frozen BK220.out 1; have hfz24_2 := blk_frozen BK220.out 2; have hfz24_3 := blk_frozen BK220.out 3) | ((with_reducible refine gate_callee (f := 40) rfl ?_); refine goesL_ (some 29) rfl rfl Try.func40 (by kernel_rfl) rfl #[.agg #[.int .i64 a0_0, .int .i64 a0_1, .int .i64 a0_2, .slice A0_3 l0_3.length c0_3]] rfl (by (try simp only [List.map_toArray, List.map_cons, List.map_nil]); first | done | rfl | (simp only [List.length_drop, List.length_take]; rfl)) ?_; (with_reducible refine (laws_toTable.calls k a0_0 a0_1 a0_2 _ _ l0_3 t236 t237 t238 t239 _ ?side1 ?side2 A10.out).mono ?_); (case side1 => exact Kd.C_below HR0_3.out (by repeat (first | (with_reducible first | exact HB.out | apply below_alloc | apply pw_below_drewN | apply below_drew1 | refine below_set ?_ GE220.out | refine below_set ?_ GE235.out) | exact HB.out))); (case side2 => exact HC0_3.out); rintro e w25 ⟨v240, rfl, ho0, hb⟩; refine ⟨_, rfl, ?_⟩; have n0_ := Aside0.mk (Kd.R_elder' (by (with_reducible repeat (first | apply Kd.R_alloc | apply Kd.R_drewN | apply Kd.R_drew)); exact (Kd.R_mono (Kd.R_far (p := ⟨gb235, 3, none⟩) (Kd.R_far (p := ⟨gb235, 2, none⟩) (Kd.R_far (p := ⟨gb235, 1, none⟩) (Kd.R_far (p := ⟨gb235, 0, none⟩) (Kd.R_types HO227.out BK235.out (by decide)) (fun _ hk => hk.2) (.int .i64 t228)) (fun _ hk => hk.2) (.int .i64 t229)) (fun _ hk => hk.2) (.int .i64 t230)) (fun _ hk => hk.2) (.slice Ao23 t231.length co23)) (fun _ h_ => h_.1))) (Kd.R_base ho0) hb); have n1_ := Aside0.mk (Kd.R_elder' (by (with_reducible repeat (first | apply Kd.R_alloc | apply Kd.R_drewN | apply Kd.R_drew)); exact (Kd.R_mono (Kd.R_far (p := ⟨gb235, 3, none⟩) (Kd.R_far (p := ⟨gb235, 2, none⟩) (Kd.R_far (p := ⟨gb235, 1, none⟩) (Kd.R_far (p := ⟨gb235, 0, none⟩) (Kd.R_types HO233.out BK235.out (by decide)) (fun _ hk => hk.2) (.int .i64 t228)) (fun _ hk => hk.2) (.int .i64 t229)) (fun _ hk => hk.2) (.int .i64 t230)) (fun _ hk => hk.2) (.slice Ao23 t231.length co23)) (fun _ h_ => h_.1))) (Kd.R_base ho0) hb); have n2_ := Aside0.mk (Kd.R_lower (Kd.R_new' (Kd.R_new' ho0 (Kd.R_lt (by (with_reducible repeat (first | apply Kd.R_alloc | apply Kd.R_drewN | apply Kd.R_drew)); exact (Kd.R_mono (Kd.R_far (p := ⟨gb235, 3, none⟩) (Kd.R_far (p := ⟨gb235, 2, none⟩) (Kd.R_far (p := ⟨gb235, 1, none⟩) (Kd.R_far (p := ⟨gb235, 0, none⟩) (Kd.R_types HO227.out BK235.out (by decide)) (fun _ hk => hk.2) (.int .i64 t228)) (fun _ hk => hk.2) (.int .i64 t229)) (fun _ hk => hk.2) (.int .i64 t230)) (fun _ hk => hk.2) (.slice Ao23 t231.length co23)) (fun _ h_ => h_.1))))) (Kd.R_lt (by (with_reducible repeat (first | apply Kd.R_alloc | apply Kd.R_drewN | apply Kd.R_drew)); exact (Kd.R_mono (Kd.R_far (p := ⟨gb235, 3, none⟩) (Kd.R_far (p := ⟨gb235, 2, none⟩) (Kd.R_far (p := ⟨gb235, 1, none⟩) (Kd.R_far (p := ⟨gb235, 0, none⟩) (Kd.R_types HO233.out BK235.out (by decide)) (fun _ hk => hk.2) (.int .i64 t228)) (fun _ hk => hk.2) (.int .i64 t229)) (fun _ hk => hk.2) (.int .i64 t230)) (fun _ hk => hk.2) (.slice Ao23 t231.length co23)) (fun _ h_ => h_.1))))) (below_size (by repeat (first | (with_reducible first | exact HB.out | apply below_alloc | apply pw_below_drewN | apply below_drew1 | refine below_set ?_ GE220.out | refine below_set ?_ GE235.out) | exact HB.out)))); have n3_ := Aside0.mk (blk_below (g := gb220) (o := .cells #[.int .i64 a0_0, .int .i64 a0_1, .int .i64 a0_2, .slice A0_3 l0_3.length c0_3] 64 (0, 0)) (by (with_reducible repeat (first | refine blk_drewN ?_ _ | refine blk_drew ?_ | refine blk_alloc ?_ _)); refine blk_far ?_ NB220_235.out _; (with_reducible repeat (first | refine blk_drewN ?_ _ | refine blk_drew ?_ | refine blk_alloc ?_ _)); refine blk_far ?_ NB220_235.out _; (with_reducible repeat (first | refine blk_drewN ?_ _ | refine blk_drew ?_ | refine blk_alloc ?_ _)); refine blk_far ?_ NB220_235.out _; (with_reducible repeat (first | refine blk_drewN ?_ _ | refine blk_drew ?_ | refine blk_alloc ?_ _)); refine blk_far ?_ NB220_235.out _; (with_reducible repeat (first | refine blk_drewN ?_ _ | refine blk_drew ?_ | refine blk_alloc ?_ _)); exact BK220.out) hb); have n4_ := Aside0.mk (blk_below (g := gb235) (o := .cells #[.int .i64 t228, .int .i64 t229, .int .i64 t230, .slice Ao23 t231.length co23] 69 (0, 0)) (by (with_reducible repeat (first | refine blk_drewN ?_ _ | refine blk_drew ?_ | refine blk_alloc ?_ _)); refine blk_put (cs := #[.int .i64 t228, .int .i64 t229, .int .i64 t230, .slice none 0 0]) ?_ 3 _ rfl; (with_reducible repeat (first | refine blk_drewN ?_ _ | refine blk_drew ?_ | refine blk_alloc ?_ _)); refine blk_put (cs := #[.int .i64 t228, .int .i64 t229, .int .i64 0, .slice none 0 0]) ?_ 2 _ rfl; (with_reducible repeat (first | refine blk_drewN ?_ _ | refine blk_drew ?_ | refine blk_alloc ?_ _)); refine blk_put (cs := #[.int .i64 t228, .int .i64 0, .int .i64 0, .slice none 0 0]) ?_ 1 _ rfl; (with_reducible repeat (first | refine blk_drewN ?_ _ | refine blk_drew ?_ | refine blk_alloc ?_ _)); refine blk_put (cs := #[.int .i64 0, .int .i64 0, .int .i64 0, .slice none 0 0]) ?_ 0 _ rfl; (with_reducible repeat (first | refine blk_drewN ?_ _ | refine blk_drew ?_ | refine blk_alloc ?_ _)); exact BK235.out) hb); have n5_ := Aside0.mk (below_step (by repeat (first | (with_reducible first | exact HB.out | apply below_alloc | apply pw_below_drewN | apply below_drew1 | refine below_set ?_ GE220.out | refine below_set ?_ GE235.out) | exact HB.out)) hb); clear HO227; clear HO233; clear BK220; clear BK235; clear HB; have HO227 := n0_; have HO233 := n1_; have HO241 := n2_; have BK220 := n3_; have BK235 := n4_; have HB := n5_; clear n0_ n1_ n2_ n3_ n4_ n5_; (try clear hb); (try clear hb2); (try clear hk); (try clear hi); (try clear ho0)) | ((with_reducible refine gate_dst (N := 8) rfl ?_); refine box_event ?hg (N := 8) ?hd (cs := #[.int .i64 0, .int .i64 0, .int .i64 0, .slice none 0 0]) (t := 69) ?hr ?_; (case hd => rfl); (case hg => rfl); (case hr => first | (go_simp; done) | (go_simp; rfl)); intro gb242 hg w26 hbox hb; have n0_ := Aside0.mk (Kd.R_below (by (with_reducible repeat (first | apply Kd.R_alloc | apply Kd.R_drewN | apply Kd.R_drew)); exact HO227.out) hb); have n1_ := Aside0.mk (Kd.R_below (by (with_reducible repeat (first | apply Kd.R_alloc | apply Kd.R_drewN | apply Kd.R_drew)); exact HO233.out) hb); have n2_ := Aside0.mk (Kd.R_below (by (with_reducible repeat (first | apply Kd.R_alloc | apply Kd.R_drewN | apply Kd.R_drew)); exact HO241.out) hb); have n3_ := Aside0.mk (blk_below (g := gb220) (o := .cells #[.int .i64 a0_0, .int .i64 a0_1, .int .i64 a0_2, .slice A0_3 l0_3.length c0_3] 64 (0, 0)) (by (with_reducible repeat (first | refine blk_drewN ?_ _ | refine blk_drew ?_ | refine blk_alloc ?_ _)); exact BK220.out) hb); have n4_ := Aside0.mk (blk_below (g := gb235) (o := .cells #[.int .i64 t228, .int .i64 t229, .int .i64 t230, .slice Ao23 t231.length co23] 69 (0, 0)) (by (with_reducible repeat (first | refine blk_drewN ?_ _ | refine blk_drew ?_ | refine blk_alloc ?_ _)); exact BK235.out) hb); have n5_ := Aside0.mk (below_step (by repeat (first | (with_reducible first | exact HB.out | apply below_alloc | apply pw_below_drewN | apply below_drew1 | refine below_set ?_ GE220.out | refine below_set ?_ GE235.out) | exact HB.out)) hb); have n6_ := Aside0.mk (hbox); have n7_ := Aside0.mk ((by rw [hg]; exact (below_size (by repeat (first | (with_reducible first | exact HB.out | apply below_alloc | apply pw_below_drewN | apply below_drew1 | refine below_set ?_ GE220.out | refine below_set ?_ GE235.out) | exact HB.out))) : w.heap.size ≤ gb242)); have n8_ := Aside0.mk ((by rw [hg]; exact (below_size (by repeat (first | (with_reducible first | exact HB.out | apply below_alloc | apply pw_below_drewN | apply below_drew1 | refine below_set ?_ GE220.out | refine below_set ?_ GE235.out) | exact HB.out))) : w.heap.size ≤ gb242)); have n9_ := Aside0.mk ((by rw [hg]; exact Nat.ne_of_lt (blk_lt (g := gb220) (o := .cells #[.int .i64 a0_0, .int .i64 a0_1, .int .i64 a0_2, .slice A0_3 l0_3.length c0_3] 64 (0, 0)) (by (with_reducible repeat (first | refine blk_drewN ?_ _ | refine blk_drew ?_ | refine blk_alloc ?_ _)); exact BK220.out)) : gb220 ≠ gb242)); have n10_ := Aside0.mk ((by rw [hg]; exact Nat.ne_of_gt (blk_lt (g := gb220) (o := .cells #[.int .i64 a0_0, .int .i64 a0_1, .int .i64 a0_2, .slice A0_3 l0_3.length c0_3] 64 (0, 0)) (by (with_reducible repeat (first | refine blk_drewN ?_ _ | refine blk_drew ?_ | refine blk_alloc ?_ _)); exact BK220.out)) : gb242 ≠ gb220)); have n11_ := Aside0.mk ((by rw [hg]; exact Nat.ne_of_lt (blk_lt (g := gb235) (o := .cells #[.int .i64 t228, .int .i64 t229, .int .i64 t230, .slice Ao23 t231.length co23] 69 (0, 0)) (by (with_reducible repeat (first | refine blk_drewN ?_ _ | refine blk_drew ?_ | refine blk_alloc ?_ _)); exact BK235.out)) : gb235 ≠ gb242)); have n12_ := Aside0.mk ((by rw [hg]; exact Nat.ne_of_gt (blk_lt (g := gb235) (o := .cells #[.int .i64 t228, .int .i64 t229, .int .i64 t230, .slice Ao23 t231.length co23] 69 (0, 0)) (by (with_reducible repeat (first | refine blk_drewN ?_ _ | refine blk_drew ?_ | refine blk_alloc ?_ _)); exact BK235.out)) : gb242 ≠ gb235)); clear HO227; clear HO233; clear HO241; clear BK220; clear BK235; clear HB; have HO227 := n0_; have HO233 := n1_; have HO241 := n2_; have BK220 := n3_; have BK235 := n4_; have HB := n5_; have BK242 := n6_; have GW242 := n7_; have GE242 := n8_; have NB220_242 := n9_; have NB242_220 := n10_; have NB235_242 := n11_; have NB242_235 := n12_; clear n0_ n1_ n2_ n3_ n4_ n5_ n6_ n7_ n8_ n9_ n10_ n11_ n12_; clear hb hbox hg; have hnb27 := NB242_220.out; have hnc27 := NB220_242.out; have hnb28 := NB242_235.out; have hnc28 := NB235_242.out; have hcz29_0 : w26.cell? ⟨gb242, 0, none⟩ = some (.int .i64 0) := (blk_cell BK242.out 0).trans rfl; have hcz29_1 : w26.cell? ⟨gb242, 1, none⟩ = some (.int .i64 0) := (blk_cell BK242.out 1).trans rfl; have hcz29_2 : w26.cell? ⟨gb242, 2, none⟩ = some (.int .i64 0) := (blk_cell BK242.out 2).trans rfl; have hcz29_3 : w26.cell? ⟨gb242, 3, none⟩ = some (.slice none 0 0) := (blk_cell BK242.out 3).trans rfl; have hfz29_0 := blk_frozen BK242.out 0; have hfz29_1 := blk_frozen BK242.out 1; have hfz29_2 := blk_frozen BK242.out 2; have hfz29_3 := blk_frozen BK242.out 3; obtain ⟨Ao30, co30, eo30⟩ := Kd.R_slice HO241.out; subst eo30) | ((with_reducible refine gate_callee (f := 46) rfl ?_); refine goesL_ (some 33) rfl rfl Try.func46 (by kernel_rfl) rfl #[.agg #[.int .i64 t236, .int .i64 t237, .int .i64 t238, .slice Ao30 t239.length co30], .int .i64 a1] rfl (by (try simp only [List.map_toArray, List.map_cons, List.map_nil]); first | done | rfl | (simp only [List.length_drop, List.length_take]; rfl)) ?_; (with_reducible refine (impl_TableCap.calls k t236 t237 t238 _ _ t239 a1 t243 t244 t245 t246 t249 _ ?side1 ?side2 A11.out).mono ?_); (case side1 => refine (Kd.R_reads' (e := 23) (base := w.heap.size) (ok := fun k_ => ((True ∧ some k_ ≠ (.slice Ao18 t225.length co18 : Value).ownBlock) ∧ some k_ ≠ (.slice Ao23 t231.length co23 : Value).ownBlock)) (n := t239.length) (c := co30) ?_).2.2; exact (by (with_reducible repeat (first | apply Kd.R_alloc | apply Kd.R_drewN | apply Kd.R_drew)); exact (Kd.R_mono (Kd.R_far (p := ⟨gb242, 3, none⟩) (Kd.R_far (p := ⟨gb242, 2, none⟩) (Kd.R_far (p := ⟨gb242, 1, none⟩) (Kd.R_far (p := ⟨gb242, 0, none⟩) (Kd.R_types HO241.out BK242.out (by decide)) (fun _ hk => hk.2) (.int .i64 t236)) (fun _ hk => hk.2) (.int .i64 t237)) (fun _ hk => hk.2) (.int .i64 t238)) (fun _ hk => hk.2) (.slice Ao30 t239.length co30)) (fun _ h_ => h_.1)))); (case side2 => exact (Kd.R_reads' HO241.out).2.1); rintro e w31 ⟨v247, rfl, ho0, hb⟩; refine ⟨_, rfl, ?_⟩; have n0_ := Aside0.mk (Kd.R_elder' (by (with_reducible repeat (first | apply Kd.R_alloc | apply Kd.R_drewN | apply Kd.R_drew)); exact (Kd.R_mono (Kd.R_far (p := ⟨gb242, 3, none⟩) (Kd.R_far (p := ⟨gb242, 2, none⟩) (Kd.R_far (p := ⟨gb242, 1, none⟩) (Kd.R_far (p := ⟨gb242, 0, none⟩) (Kd.R_types HO227.out BK242.out (by decide)) (fun _ hk => hk.2) (.int .i64 t236)) (fun _ hk => hk.2) (.int .i64 t237)) (fun _ hk => hk.2) (.int .i64 t238)) (fun _ hk => hk.2) (.slice Ao30 t239.length co30)) (fun _ h_ => h_.1))) (Kd.R_base ho0) hb); have n1_ := Aside0.mk (Kd.R_elder' (by (with_reducible repeat (first | apply Kd.R_alloc | apply Kd.R_drewN | apply Kd.R_drew)); exact (Kd.R_mono (Kd.R_far (p := ⟨gb242, 3, none⟩) (Kd.R_far (p := ⟨gb242, 2, none⟩) (Kd.R_far (p := ⟨gb242, 1, none⟩) (Kd.R_far (p := ⟨gb242, 0, none⟩) (Kd.R_types HO233.out BK242.out (by decide)) (fun _ hk => hk.2) (.int .i64 t236)) (fun _ hk => hk.2) (.int .i64 t237)) (fun _ hk => hk.2) (.int .i64 t238)) (fun _ hk => hk.2) (.slice Ao30 t239.length co30)) (fun _ h_ => h_.1))) (Kd.R_base ho0) hb); have n2_ := Aside0.mk (Kd.R_elder' (by (with_reducible repeat (first | apply Kd.R_alloc | apply Kd.R_drewN | apply Kd.R_drew)); exact (Kd.R_mono (Kd.R_far (p := ⟨gb242, 3, none⟩) (Kd.R_far (p := ⟨gb242, 2, none⟩) (Kd.R_far (p := ⟨gb242, 1, none⟩) (Kd.R_far (p := ⟨gb242, 0, none⟩) (Kd.R_types HO241.out BK242.out (by decide)) (fun _ hk => hk.2) (.int .i64 t236)) (fun _ hk => hk.2) (.int .i64 t237)) (fun _ hk => hk.2) (.int .i64 t238)) (fun _ hk => hk.2) (.slice Ao30 t239.length co30)) (fun _ h_ => h_.1))) (Kd.R_base ho0) hb); have n3_ := Aside0.mk (Kd.R_lower (Kd.R_new' (Kd.R_new' (Kd.R_new' ho0 (Kd.R_lt (by (with_reducible repeat (first | apply Kd.R_alloc | apply Kd.R_drewN | apply Kd.R_drew)); exact (Kd.R_mono (Kd.R_far (p := ⟨gb242, 3, none⟩) (Kd.R_far (p := ⟨gb242, 2, none⟩) (Kd.R_far (p := ⟨gb242, 1, none⟩) (Kd.R_far (p := ⟨gb242, 0, none⟩) (Kd.R_types HO227.out BK242.out (by decide)) (fun _ hk => hk.2) (.int .i64 t236)) (fun _ hk => hk.2) (.int .i64 t237)) (fun _ hk => hk.2) (.int .i64 t238)) (fun _ hk => hk.2) (.slice Ao30 t239.length co30)) (fun _ h_ => h_.1))))) (Kd.R_lt (by (with_reducible repeat (first | apply Kd.R_alloc | apply Kd.R_drewN | apply Kd.R_drew)); exact (Kd.R_mono (Kd.R_far (p := ⟨gb242, 3, none⟩) (Kd.R_far (p := ⟨gb242, 2, none⟩) (Kd.R_far (p := ⟨gb242, 1, none⟩) (Kd.R_far (p := ⟨gb242, 0, none⟩) (Kd.R_types HO233.out BK242.out (by decide)) (fun _ hk => hk.2) (.int .i64 t236)) (fun _ hk => hk.2) (.int .i64 t237)) (fun _ hk => hk.2) (.int .i64 t238)) (fun _ hk => hk.2) (.slice Ao30 t239.length co30)) (fun _ h_ => h_.1))))) (Kd.R_lt (by (with_reducible repeat (first | apply Kd.R_alloc | apply Kd.R_drewN | apply Kd.R_drew)); exact (Kd.R_mono (Kd.R_far (p := ⟨gb242, 3, none⟩) (Kd.R_far (p := ⟨gb242, 2, none⟩) (Kd.R_far (p := ⟨gb242, 1, none⟩) (Kd.R_far (p := ⟨gb242, 0, none⟩) (Kd.R_types HO241.out BK242.out (by decide)) (fun _ hk => hk.2) (.int .i64 t236)) (fun _ hk => hk.2) (.int .i64 t237)) (fun _ hk => hk.2) (.int .i64 t238)) (fun _ hk => hk.2) (.slice Ao30 t239.length co30)) (fun _ h_ => h_.1))))) (below_size (by repeat (first | (with_reducible first | exact HB.out | apply below_alloc | apply pw_below_drewN | apply below_drew1 | refine below_set ?_ GE220.out | refine below_set ?_ GE235.out | refine below_set ?_ GE242.out) | exact HB.out)))); have n4_ := Aside0.mk (blk_below (g := gb220) (o := .cells #[.int .i64 a0_0, .int .i64 a0_1, .int .i64 a0_2, .slice A0_3 l0_3.length c0_3] 64 (0, 0)) (by (with_reducible repeat (first | refine blk_drewN ?_ _ | refine blk_drew ?_ | refine blk_alloc ?_ _)); refine blk_far ?_ NB220_242.out _; (with_reducible repeat (first | refine blk_drewN ?_ _ | refine blk_drew ?_ | refine blk_alloc ?_ _)); refine blk_far ?_ NB220_242.out _; (with_reducible repeat (first | refine blk_drewN ?_ _ | refine blk_drew ?_ | refine blk_alloc ?_ _)); refine blk_far ?_ NB220_242.out _; (with_reducible repeat (first | refine blk_drewN ?_ _ | refine blk_drew ?_ | refine blk_alloc ?_ _)); refine blk_far ?_ NB220_242.out _; (with_reducible repeat (first | refine blk_drewN ?_ _ | refine blk_drew ?_ | refine blk_alloc ?_ _)); exact BK220.out) hb); have n5_ := Aside0.mk (blk_below (g := gb235) (o := .cells #[.int .i64 t228, .int .i64 t229, .int .i64 t230, .slice Ao23 t231.length co23] 69 (0, 0)) (by (with_reducible repeat (first | refine blk_drewN ?_ _ | refine blk_drew ?_ | refine blk_alloc ?_ _)); refine blk_far ?_ NB235_242.out _; (with_reducible repeat (first | refine blk_drewN ?_ _ | refine blk_drew ?_ | refine blk_alloc ?_ _)); refine blk_far ?_ NB235_242.out _; (with_reducible repeat (first | refine blk_drewN ?_ _ | refine blk_drew ?_ | refine blk_alloc ?_ _)); refine blk_far ?_ NB235_242.out _; (with_reducible repeat (first | refine blk_drewN ?_ _ | refine blk_drew ?_ | refine blk_alloc ?_ _)); refine blk_far ?_ NB235_242.out _; (with_reducible repeat (first | refine blk_drewN ?_ _ | refine blk_drew ?_ | refine blk_alloc ?_ _)); exact BK235.out) hb); have n6_ := Aside0.mk (blk_below (g := gb242) (o := .cells #[.int .i64 t236, .int .i64 t237, .int .i64 t238, .slice Ao30 t239.length co30] 69 (0, 0)) (by (with_reducible repeat (first | refine blk_drewN ?_ _ | refine blk_drew ?_ | refine blk_alloc ?_ _)); refine blk_put (cs := #[.int .i64 t236, .int .i64 t237, .int .i64 t238, .slice none 0 0]) ?_ 3 _ rfl; (with_reducible repeat (first | refine blk_drewN ?_ _ | refine blk_drew ?_ | refine blk_alloc ?_ _)); refine blk_put (cs := #[.int .i64 t236, .int .i64 t237, .int .i64 0, .slice none 0 0]) ?_ 2 _ rfl; (with_reducible repeat (first | refine blk_drewN ?_ _ | refine blk_drew ?_ | refine blk_alloc ?_ _)); refine blk_put (cs := #[.int .i64 t236, .int .i64 0, .int .i64 0, .slice none 0 0]) ?_ 1 _ rfl; (with_reducible repeat (first | refine blk_drewN ?_ _ | refine blk_drew ?_ | refine blk_alloc ?_ _)); refine blk_put (cs := #[.int .i64 0, .int .i64 0, .int .i64 0, .slice none 0 0]) ?_ 0 _ rfl; (with_reducible repeat (first | refine blk_drewN ?_ _ | refine blk_drew ?_ | refine blk_alloc ?_ _)); exact BK242.out) hb); have n7_ := Aside0.mk (below_step (by repeat (first | (with_reducible first | exact HB.out | apply below_alloc | apply pw_below_drewN | apply below_drew1 | refine below_set ?_ GE220.out | refine below_set ?_ GE235.out | refine below_set ?_ GE242.out) | exact HB.out)) hb); clear HO227; clear HO233; clear HO241; clear BK220; clear BK235; clear BK242; clear HB; have HO227 := n0_; have HO233 := n1_; have HO241 := n2_; have HO248 := n3_; have BK220 := n4_; have BK235 := n5_; have BK242 := n6_; have HB := n7_; clear n0_ n1_ n2_ n3_ n4_ n5_ n6_ n7_; (try clear hb); (try clear hb2); (try clear hk); (try clear hi); (try clear ho0)) | ((with_reducible refine gate_dst (N := 9) rfl ?_); refine box_event ?hg (N := 9) ?hd (cs := #[.int .i64 0, .int .i64 0, .int .i64 0, .slice none 0 0]) (t := 69) ?hr ?_; (case hd => rfl); (case hg => rfl); (case hr => first | (go_simp; done) | (go_simp; rfl)); intro gb250 hg w32 hbox hb; have n0_ := Aside0.mk (Kd.R_below (by (with_reducible repeat (first | apply Kd.R_alloc | apply Kd.R_drewN | apply Kd.R_drew)); exact HO227.out) hb); have n1_ := Aside0.mk (Kd.R_below (by (with_reducible repeat (first | apply Kd.R_alloc | apply Kd.R_drewN | apply Kd.R_drew)); exact HO233.out) hb); have n2_ := Aside0.mk (Kd.R_below (by (with_reducible repeat (first | apply Kd.R_alloc | apply Kd.R_drewN | apply Kd.R_drew)); exact HO241.out) hb); have n3_ := Aside0.mk (Kd.R_below (by (with_reducible repeat (first | apply Kd.R_alloc | apply Kd.R_drewN | apply Kd.R_drew)); exact HO248.out) hb); have n4_ := Aside0.mk (blk_below (g := gb220) (o := .cells #[.int .i64 a0_0, .int .i64 a0_1, .int .i64 a0_2, .slice A0_3 l0_3.length c0_3] 64 (0, 0)) (by (with_reducible repeat (first | refine blk_drewN ?_ _ | refine blk_drew ?_ | refine blk_alloc ?_ _)); exact BK220.out) hb); have n5_ := Aside0.mk (blk_below (g := gb235) (o := .cells #[.int .i64 t228, .int .i64 t229, .int .i64 t230, .slice Ao23 t231.length co23] 69 (0, 0)) (by (with_reducible repeat (first | refine blk_drewN ?_ _ | refine blk_drew ?_ | refine blk_alloc ?_ _)); exact BK235.out) hb); have n6_ := Aside0.mk (blk_below (g := gb242) (o := .cells #[.int .i64 t236, .int .i64 t237, .int .i64 t238, .slice Ao30 t239.length co30] 69 (0, 0)) (by (with_reducible repeat (first | refine blk_drewN ?_ _ | refine blk_drew ?_ | refine blk_alloc ?_ _)); exact BK242.out) hb); have n7_ := Aside0.mk (below_step (by repeat (first | (with_reducible first | exact HB.out | apply below_alloc | apply pw_below_drewN | apply below_drew1 | refine below_set ?_ GE220.out | refine below_set ?_ GE235.out | refine below_set ?_ GE242.out) | exact HB.out)) hb); have n8_ := Aside0.mk (hbox); have n9_ := Aside0.mk ((by rw [hg]; exact (below_size (by repeat (first | (with_reducible first | exact HB.out | apply below_alloc | apply pw_below_drewN | apply below_drew1 | refine below_set ?_ GE220.out | refine below_set ?_ GE235.out | refine below_set ?_ GE242.out) | exact HB.out))) : w.heap.size ≤ gb250)); have n10_ := Aside0.mk ((by rw [hg]; exact (below_size (by repeat (first | (with_reducible first | exact HB.out | apply below_alloc | apply pw_below_drewN | apply below_drew1 | refine below_set ?_ GE220.out | refine below_set ?_ GE235.out | refine below_set ?_ GE242.out) | exact HB.out))) : w.heap.size ≤ gb250)); have n11_ := Aside0.mk ((by rw [hg]; exact Nat.ne_of_lt (blk_lt (g := gb220) (o := .cells #[.int .i64 a0_0, .int .i64 a0_1, .int .i64 a0_2, .slice A0_3 l0_3.length c0_3] 64 (0, 0)) (by (with_reducible repeat (first | refine blk_drewN ?_ _ | refine blk_drew ?_ | refine blk_alloc ?_ _)); exact BK220.out)) : gb220 ≠ gb250)); have n12_ := Aside0.mk ((by rw [hg]; exact Nat.ne_of_gt (blk_lt (g := gb220) (o := .cells #[.int .i64 a0_0, .int .i64 a0_1, .int .i64 a0_2, .slice A0_3 l0_3.length c0_3] 64 (0, 0)) (by (with_reducible repeat (first | refine blk_drewN ?_ _ | refine blk_drew ?_ | refine blk_alloc ?_ _)); exact BK220.out)) : gb250 ≠ gb220)); have n13_ := Aside0.mk ((by rw [hg]; exact Nat.ne_of_lt (blk_lt (g := gb235) (o := .cells #[.int .i64 t228, .int .i64 t229, .int .i64 t230, .slice Ao23 t231.length co23] 69 (0, 0)) (by (with_reducible repeat (first | refine blk_drewN ?_ _ | refine blk_drew ?_ | refine blk_alloc ?_ _)); exact BK235.out)) : gb235 ≠ gb250)); have n14_ := Aside0.mk ((by rw [hg]; exact Nat.ne_of_gt (blk_lt (g := gb235) (o := .cells #[.int .i64 t228, .int .i64 t229, .int .i64 t230, .slice Ao23 t231.length co23] 69 (0, 0)) (by (with_reducible repeat (first | refine blk_drewN ?_ _ | refine blk_drew ?_ | refine blk_alloc ?_ _)); exact BK235.out)) : gb250 ≠ gb235)); have n15_ := Aside0.mk ((by rw [hg]; exact Nat.ne_of_lt (blk_lt (g := gb242) (o := .cells #[.int .i64 t236, .int .i64 t237, .int .i64 t238, .slice Ao30 t239.length co30] 69 (0, 0)) (by (with_reducible repeat (first | refine blk_drewN ?_ _ | refine blk_drew ?_ | refine blk_alloc ?_ _)); exact BK242.out)) : gb242 ≠ gb250)); have n16_ := Aside0.mk ((by rw [hg]; exact Nat.ne_of_gt (blk_lt (g := gb242) (o := .cells #[.int .i64 t236, .int .i64 t237, .int .i64 t238, .slice Ao30 t239.length co30] 69 (0, 0)) (by (with_reducible repeat (first | refine blk_drewN ?_ _ | refine blk_drew ?_ | refine blk_alloc ?_ _)); exact BK242.out)) : gb250 ≠ gb242)); clear HO227; clear HO233; clear HO241; clear HO248; clear BK220; clear BK235; clear BK242; clear HB; have HO227 := n0_; have HO233 := n1_; have HO241 := n2_; have HO248 := n3_; have BK220 := n4_; have BK235 := n5_; have BK242 := n6_; have HB := n7_; have BK250 := n8_; have GW250 := n9_; have GE250 := n10_; have NB220_250 := n11_; have NB250_220 := n12_; have NB235_250 := n13_; have NB250_235 := n14_; have NB242_250 := n15_; have NB250_242 := n16_; clear n0_ n1_ n2_ n3_ n4_ n5_ n6_ n7_ n8_ n9_ n10_ n11_ n12_ n13_ n14_ n15_ n16_; clear hb hbox hg; have hnb33 := NB250_220.out; have hnc33 := NB220_250.out; have hnb34 := NB250_235.out; have hnc34 := NB235_250.out; have hnb35 := NB250_242.out; have hnc35 := NB242_250.out; have hcz36_0 : w32.cell? ⟨gb250, 0, none⟩ = some (.int .i64 0) := (blk_cell BK250.out 0).trans rfl; have hcz36_1 : w32.cell? ⟨gb250, 1, none⟩ = some (.int .i64 0) := (blk_cell BK250.out 1).trans rfl; have hcz36_2 : w32.cell? ⟨gb250, 2, none⟩ = some (.int .i64 0) := (blk_cell BK250.out 2).trans rfl; have hcz36_3 : w32.cell? ⟨gb250, 3, none⟩ = some (.slice none 0 0) := (blk_cell BK250.out 3).trans rfl; have hfz36_0 := blk_frozen BK250.out 0; have hfz36_1 := blk_frozen BK250.out 1; have hfz36_2 := blk_frozen BK250.out 2; have hfz36_3 := blk_frozen BK250.out 3; obtain ⟨Ao37, co37, eo37⟩ := Kd.R_slice HO248.out; subst eo37))
    (try simp only [Act.put, List.setIfInBounds_toArray, List.set_cons_zero, List.set_cons_succ])
    go_cut [44] (fun v44 wc => ∃ (kq : Nat) (x44_11 : Bool), v44 = .bool x44_11 ∧ Aside0 (laws_FnExactTableCap.j0 kq a1 t234 t249 x44_11 a0_0 a0_1 a0_2 l0_3 t228 t229 t230 t231 t236 t237 t238 t239 t243 t244 t245 t246 = some r) ∧ Aside0 (kq ≤ k) ∧ Aside0 (Kd.R k23 23 wc w.heap.size (fun k_ => some k_ ≠ ((.slice Ao30 t239.length co30) : Value).ownBlock ∧ some k_ ≠ ((.slice Ao37 t246.length co37) : Value).ownBlock) (.slice Ao23 t231.length co23) t231) ∧ Aside0 (Kd.R k23 23 wc w.heap.size (fun k_ => some k_ ≠ ((.slice Ao23 t231.length co23) : Value).ownBlock ∧ some k_ ≠ ((.slice Ao37 t246.length co37) : Value).ownBlock) (.slice Ao30 t239.length co30) t239) ∧ Aside0 (Kd.R k23 23 wc w.heap.size (fun k_ => some k_ ≠ ((.slice Ao23 t231.length co23) : Value).ownBlock ∧ some k_ ≠ ((.slice Ao30 t239.length co30) : Value).ownBlock) (.slice Ao37 t246.length co37) t246) ∧ Aside0 (wc.heap[gb220]? = some (.cells #[.int .i64 a0_0, .int .i64 a0_1, .int .i64 a0_2, (.slice A0_3 l0_3.length c0_3)] 64 (0, 0))) ∧ Aside0 (wc.heap[gb235]? = some (.cells #[.int .i64 t228, .int .i64 t229, .int .i64 t230, (.slice Ao23 t231.length co23)] 69 (0, 0))) ∧ Aside0 (wc.heap[gb242]? = some (.cells #[.int .i64 t236, .int .i64 t237, .int .i64 t238, (.slice Ao30 t239.length co30)] 69 (0, 0))) ∧ Aside0 (wc.heap[gb250]? = some (.cells #[.int .i64 t243, .int .i64 t244, .int .i64 t245, (.slice Ao37 t246.length co37)] 69 (0, 0))) ∧ Aside0 (Below w.heap.size w wc))
    case first =>
      have H := HC12.out
      clear HC12
      replace H := Option.bind_eq_some_iff.mp H
      obtain ⟨t251, A380, H⟩ := H
      replace H : (if t251 = true then (laws_FnExactTableCap.j0 k a1 t234 t249 (t249 != t234) a0_0 a0_1 a0_2 l0_3 t228 t229 t230 t231 t236 t237 t238 t239 t243 t244 t245 t246) else (laws_FnExactTableCap.j0 k a1 t234 t249 true a0_0 a0_1 a0_2 l0_3 t228 t229 t230 t231 t236 t237 t238 t239 t243 t244 t245 t246)) = some r := H
      have A38 := Aside0.mk A380
      clear A380
      by_cases c39 : t251 = true
      · subst c39
        have H1 : (laws_FnExactTableCap.j0 k a1 t234 t249 (t249 != t234) a0_0 a0_1 a0_2 l0_3 t228 t229 t230 t231 t236 t237 t238 t239 t243 t244 t245 t246) = some r := by rw [if_pos rfl] at H; exact H
        clear H
        have H := H1
        clear H1
        have H' := Aside0.mk H
        clear H
        have hnb40 := NB250_220.out
        have hnc40 := NB220_250.out
        have hnb41 := NB250_235.out
        have hnc41 := NB235_250.out
        have hnb42 := NB250_242.out
        have hnc42 := NB242_250.out
        have hcz43_0 : w32.cell? ⟨gb250, 0, none⟩ = some (.int .i64 0) := (blk_cell BK250.out 0).trans rfl
        have hcz43_1 : w32.cell? ⟨gb250, 1, none⟩ = some (.int .i64 0) := (blk_cell BK250.out 1).trans rfl
        have hcz43_2 : w32.cell? ⟨gb250, 2, none⟩ = some (.int .i64 0) := (blk_cell BK250.out 2).trans rfl
        have hcz43_3 : w32.cell? ⟨gb250, 3, none⟩ = some (.slice none 0 0) := (blk_cell BK250.out 3).trans rfl
        have hfz43_0 := blk_frozen BK250.out 0
        have hfz43_1 := blk_frozen BK250.out 1
        have hfz43_2 := blk_frozen BK250.out 2
        have hfz43_3 := blk_frozen BK250.out 3
        have hnb44 := NB235_220.out
        have hnc44 := NB220_235.out
        have hnb45 := NB235_242.out
        have hnc45 := NB242_235.out
        have hcz46_0 : w32.cell? ⟨gb235, 0, none⟩ = some (.int .i64 t228) := (blk_cell BK235.out 0).trans rfl
        have hcz46_1 : w32.cell? ⟨gb235, 1, none⟩ = some (.int .i64 t229) := (blk_cell BK235.out 1).trans rfl
        have hcz46_2 : w32.cell? ⟨gb235, 2, none⟩ = some (.int .i64 t230) := (blk_cell BK235.out 2).trans rfl
        have hcz46_3 : w32.cell? ⟨gb235, 3, none⟩ = some (.slice Ao23 t231.length co23) := (blk_cell BK235.out 3).trans rfl
        have hfz46_0 := blk_frozen BK235.out 0
        have hfz46_1 := blk_frozen BK235.out 1
        have hfz46_2 := blk_frozen BK235.out 2
        have hfz46_3 := blk_frozen BK235.out 3
        go_wp2_with (first | ((with_reducible refine gate_callee (f := 42) rfl ?_); refine goesL_ (some 38) rfl rfl Try.func42 (by kernel_rfl) rfl #[.agg #[.int .i64 t243, .int .i64 t244, .int .i64 t245, .slice Ao37 t246.length co37], .agg #[.int .i64 t228, .int .i64 t229, .int .i64 t230, .slice Ao23 t231.length co23]] rfl (by (try simp only [List.map_toArray, List.map_cons, List.map_nil]); first | done | rfl | (simp only [List.length_drop, List.length_take]; rfl)) ?_; (with_reducible refine (laws_eqTable.calls k t243 t244 t245 _ _ t246 t228 t229 t230 _ _ t231 true _ ?side1 ?side2 ?side3 ?side4 A38.out).mono ?_); (case side1 => refine (Kd.R_reads' (e := 23) (base := w.heap.size) (ok := fun k_ => (((True ∧ some k_ ≠ (.slice Ao18 t225.length co18 : Value).ownBlock) ∧ some k_ ≠ (.slice Ao23 t231.length co23 : Value).ownBlock) ∧ some k_ ≠ (.slice Ao30 t239.length co30 : Value).ownBlock)) (n := t246.length) (c := co37) ?_).2.2; exact (by (with_reducible repeat (first | apply Kd.R_alloc | apply Kd.R_drewN | apply Kd.R_drew)); exact (Kd.R_mono (Kd.R_far (p := ⟨gb250, 3, none⟩) (Kd.R_far (p := ⟨gb250, 2, none⟩) (Kd.R_far (p := ⟨gb250, 1, none⟩) (Kd.R_far (p := ⟨gb250, 0, none⟩) (Kd.R_types HO248.out BK250.out (by decide)) (fun _ hk => hk.2) (.int .i64 t243)) (fun _ hk => hk.2) (.int .i64 t244)) (fun _ hk => hk.2) (.int .i64 t245)) (fun _ hk => hk.2) (.slice Ao37 t246.length co37)) (fun _ h_ => h_.1)))); (case side2 => exact (Kd.R_reads' HO248.out).2.1); (case side3 => refine (Kd.R_reads' (e := 23) (base := w.heap.size) (ok := fun k_ => (((True ∧ some k_ ≠ (.slice Ao18 t225.length co18 : Value).ownBlock) ∧ some k_ ≠ (.slice Ao30 t239.length co30 : Value).ownBlock) ∧ some k_ ≠ (.slice Ao37 t246.length co37 : Value).ownBlock)) (n := t231.length) (c := co23) ?_).2.2; exact (by (with_reducible repeat (first | apply Kd.R_alloc | apply Kd.R_drewN | apply Kd.R_drew)); exact (Kd.R_mono (Kd.R_far (p := ⟨gb250, 3, none⟩) (Kd.R_far (p := ⟨gb250, 2, none⟩) (Kd.R_far (p := ⟨gb250, 1, none⟩) (Kd.R_far (p := ⟨gb250, 0, none⟩) (Kd.R_types HO233.out BK250.out (by decide)) (fun _ hk => hk.2) (.int .i64 t243)) (fun _ hk => hk.2) (.int .i64 t244)) (fun _ hk => hk.2) (.int .i64 t245)) (fun _ hk => hk.2) (.slice Ao37 t246.length co37)) (fun _ h_ => h_.1)))); (case side4 => exact (Kd.R_reads' HO233.out).2.1); rintro e w47 ⟨rfl, hb⟩; refine ⟨_, rfl, ?_⟩; have n0_ := Aside0.mk (Kd.R_below (by (with_reducible repeat (first | apply Kd.R_alloc | apply Kd.R_drewN | apply Kd.R_drew)); exact (Kd.R_mono (Kd.R_far (p := ⟨gb250, 3, none⟩) (Kd.R_far (p := ⟨gb250, 2, none⟩) (Kd.R_far (p := ⟨gb250, 1, none⟩) (Kd.R_far (p := ⟨gb250, 0, none⟩) (Kd.R_types HO227.out BK250.out (by decide)) (fun _ hk => hk.2) (.int .i64 t243)) (fun _ hk => hk.2) (.int .i64 t244)) (fun _ hk => hk.2) (.int .i64 t245)) (fun _ hk => hk.2) (.slice Ao37 t246.length co37)) (fun _ h_ => h_.1))) hb); have n1_ := Aside0.mk (Kd.R_below (by (with_reducible repeat (first | apply Kd.R_alloc | apply Kd.R_drewN | apply Kd.R_drew)); exact (Kd.R_mono (Kd.R_far (p := ⟨gb250, 3, none⟩) (Kd.R_far (p := ⟨gb250, 2, none⟩) (Kd.R_far (p := ⟨gb250, 1, none⟩) (Kd.R_far (p := ⟨gb250, 0, none⟩) (Kd.R_types HO233.out BK250.out (by decide)) (fun _ hk => hk.2) (.int .i64 t243)) (fun _ hk => hk.2) (.int .i64 t244)) (fun _ hk => hk.2) (.int .i64 t245)) (fun _ hk => hk.2) (.slice Ao37 t246.length co37)) (fun _ h_ => h_.1))) hb); have n2_ := Aside0.mk (Kd.R_below (by (with_reducible repeat (first | apply Kd.R_alloc | apply Kd.R_drewN | apply Kd.R_drew)); exact (Kd.R_mono (Kd.R_far (p := ⟨gb250, 3, none⟩) (Kd.R_far (p := ⟨gb250, 2, none⟩) (Kd.R_far (p := ⟨gb250, 1, none⟩) (Kd.R_far (p := ⟨gb250, 0, none⟩) (Kd.R_types HO241.out BK250.out (by decide)) (fun _ hk => hk.2) (.int .i64 t243)) (fun _ hk => hk.2) (.int .i64 t244)) (fun _ hk => hk.2) (.int .i64 t245)) (fun _ hk => hk.2) (.slice Ao37 t246.length co37)) (fun _ h_ => h_.1))) hb); have n3_ := Aside0.mk (Kd.R_below (by (with_reducible repeat (first | apply Kd.R_alloc | apply Kd.R_drewN | apply Kd.R_drew)); exact (Kd.R_mono (Kd.R_far (p := ⟨gb250, 3, none⟩) (Kd.R_far (p := ⟨gb250, 2, none⟩) (Kd.R_far (p := ⟨gb250, 1, none⟩) (Kd.R_far (p := ⟨gb250, 0, none⟩) (Kd.R_types HO248.out BK250.out (by decide)) (fun _ hk => hk.2) (.int .i64 t243)) (fun _ hk => hk.2) (.int .i64 t244)) (fun _ hk => hk.2) (.int .i64 t245)) (fun _ hk => hk.2) (.slice Ao37 t246.length co37)) (fun _ h_ => h_.1))) hb); have n4_ := Aside0.mk (blk_below (g := gb220) (o := .cells #[.int .i64 a0_0, .int .i64 a0_1, .int .i64 a0_2, .slice A0_3 l0_3.length c0_3] 64 (0, 0)) (by (with_reducible repeat (first | refine blk_drewN ?_ _ | refine blk_drew ?_ | refine blk_alloc ?_ _)); refine blk_far ?_ NB220_250.out _; (with_reducible repeat (first | refine blk_drewN ?_ _ | refine blk_drew ?_ | refine blk_alloc ?_ _)); refine blk_far ?_ NB220_250.out _; (with_reducible repeat (first | refine blk_drewN ?_ _ | refine blk_drew ?_ | refine blk_alloc ?_ _)); refine blk_far ?_ NB220_250.out _; (with_reducible repeat (first | refine blk_drewN ?_ _ | refine blk_drew ?_ | refine blk_alloc ?_ _)); refine blk_far ?_ NB220_250.out _; (with_reducible repeat (first | refine blk_drewN ?_ _ | refine blk_drew ?_ | refine blk_alloc ?_ _)); exact BK220.out) hb); have n5_ := Aside0.mk (blk_below (g := gb235) (o := .cells #[.int .i64 t228, .int .i64 t229, .int .i64 t230, .slice Ao23 t231.length co23] 69 (0, 0)) (by (with_reducible repeat (first | refine blk_drewN ?_ _ | refine blk_drew ?_ | refine blk_alloc ?_ _)); refine blk_far ?_ NB235_250.out _; (with_reducible repeat (first | refine blk_drewN ?_ _ | refine blk_drew ?_ | refine blk_alloc ?_ _)); refine blk_far ?_ NB235_250.out _; (with_reducible repeat (first | refine blk_drewN ?_ _ | refine blk_drew ?_ | refine blk_alloc ?_ _)); refine blk_far ?_ NB235_250.out _; (with_reducible repeat (first | refine blk_drewN ?_ _ | refine blk_drew ?_ | refine blk_alloc ?_ _)); refine blk_far ?_ NB235_250.out _; (with_reducible repeat (first | refine blk_drewN ?_ _ | refine blk_drew ?_ | refine blk_alloc ?_ _)); exact BK235.out) hb); have n6_ := Aside0.mk (blk_below (g := gb242) (o := .cells #[.int .i64 t236, .int .i64 t237, .int .i64 t238, .slice Ao30 t239.length co30] 69 (0, 0)) (by (with_reducible repeat (first | refine blk_drewN ?_ _ | refine blk_drew ?_ | refine blk_alloc ?_ _)); refine blk_far ?_ NB242_250.out _; (with_reducible repeat (first | refine blk_drewN ?_ _ | refine blk_drew ?_ | refine blk_alloc ?_ _)); refine blk_far ?_ NB242_250.out _; (with_reducible repeat (first | refine blk_drewN ?_ _ | refine blk_drew ?_ | refine blk_alloc ?_ _)); refine blk_far ?_ NB242_250.out _; (with_reducible repeat (first | refine blk_drewN ?_ _ | refine blk_drew ?_ | refine blk_alloc ?_ _)); refine blk_far ?_ NB242_250.out _; (with_reducible repeat (first | refine blk_drewN ?_ _ | refine blk_drew ?_ | refine blk_alloc ?_ _)); exact BK242.out) hb); have n7_ := Aside0.mk (blk_below (g := gb250) (o := .cells #[.int .i64 t243, .int .i64 t244, .int .i64 t245, .slice Ao37 t246.length co37] 69 (0, 0)) (by (with_reducible repeat (first | refine blk_drewN ?_ _ | refine blk_drew ?_ | refine blk_alloc ?_ _)); refine blk_put (cs := #[.int .i64 t243, .int .i64 t244, .int .i64 t245, .slice none 0 0]) ?_ 3 _ rfl; (with_reducible repeat (first | refine blk_drewN ?_ _ | refine blk_drew ?_ | refine blk_alloc ?_ _)); refine blk_put (cs := #[.int .i64 t243, .int .i64 t244, .int .i64 0, .slice none 0 0]) ?_ 2 _ rfl; (with_reducible repeat (first | refine blk_drewN ?_ _ | refine blk_drew ?_ | refine blk_alloc ?_ _)); refine blk_put (cs := #[.int .i64 t243, .int .i64 0, .int .i64 0, .slice none 0 0]) ?_ 1 _ rfl; (with_reducible repeat (first | refine blk_drewN ?_ _ | refine blk_drew ?_ | refine blk_alloc ?_ _)); refine blk_put (cs := #[.int .i64 0, .int .i64 0, .int .i64 0, .slice none 0 0]) ?_ 0 _ rfl; (with_reducible repeat (first | refine blk_drewN ?_ _ | refine blk_drew ?_ | refine blk_alloc ?_ _)); exact BK250.out) hb); have n8_ := Aside0.mk (below_step (by repeat (first | (with_reducible first | exact HB.out | apply below_alloc | apply pw_below_drewN | apply below_drew1 | refine below_set ?_ GE220.out | refine below_set ?_ GE235.out | refine below_set ?_ GE242.out | refine below_set ?_ GE250.out) | exact HB.out)) hb); clear HO227; clear HO233; clear HO241; clear HO248; clear BK220; clear BK235; clear BK242; clear BK250; clear HB; have HO227 := n0_; have HO233 := n1_; have HO241 := n2_; have HO248 := n3_; have BK220 := n4_; have BK235 := n5_; have BK242 := n6_; have BK250 := n7_; have HB := n8_; clear n0_ n1_ n2_ n3_ n4_ n5_ n6_ n7_ n8_; (try clear hb); (try clear hb2); (try clear hk); (try clear hi)))
        go_meet
        case rel => exact ⟨_, ((t249 != t234)), (by first | rfl | (simp; done) | (simp [*]; done)), H', ⟨by first | omega | exact Nat.le_refl _⟩, ⟨by (with_reducible repeat (first | apply Kd.R_alloc | apply Kd.R_drewN | apply Kd.R_drew)); exact Kd.R_mono HO233.out (fun _ hk => ⟨hk.1.2, hk.2⟩)⟩, ⟨by (with_reducible repeat (first | apply Kd.R_alloc | apply Kd.R_drewN | apply Kd.R_drew)); exact Kd.R_mono HO241.out (fun _ hk => ⟨hk.1.2, hk.2⟩)⟩, ⟨by (with_reducible repeat (first | apply Kd.R_alloc | apply Kd.R_drewN | apply Kd.R_drew)); exact Kd.R_mono HO248.out (fun _ hk => ⟨hk.1.2, hk.2⟩)⟩, ⟨by (with_reducible repeat (first | refine blk_drewN ?_ _ | refine blk_drew ?_ | refine blk_alloc ?_ _)); exact BK220.out⟩, ⟨by (with_reducible repeat (first | refine blk_drewN ?_ _ | refine blk_drew ?_ | refine blk_alloc ?_ _)); exact BK235.out⟩, ⟨by (with_reducible repeat (first | refine blk_drewN ?_ _ | refine blk_drew ?_ | refine blk_alloc ?_ _)); exact BK242.out⟩, ⟨by (with_reducible repeat (first | refine blk_drewN ?_ _ | refine blk_drew ?_ | refine blk_alloc ?_ _)); exact BK250.out⟩, ⟨by repeat (first | (with_reducible first | exact HB.out | apply below_alloc | apply pw_below_drewN | apply below_drew1 | refine below_set ?_ GE220.out | refine below_set ?_ GE235.out | refine below_set ?_ GE242.out | refine below_set ?_ GE250.out) | exact HB.out)⟩⟩
      · replace c39 := Bool.eq_false_iff.mpr c39
        subst c39
        have H1 : (laws_FnExactTableCap.j0 k a1 t234 t249 true a0_0 a0_1 a0_2 l0_3 t228 t229 t230 t231 t236 t237 t238 t239 t243 t244 t245 t246) = some r := by rw [if_neg (show ¬ (false = true) by decide)] at H; exact H
        clear H
        have H := H1
        clear H1
        have H' := Aside0.mk H
        clear H
        have hnb48 := NB250_220.out
        have hnc48 := NB220_250.out
        have hnb49 := NB250_235.out
        have hnc49 := NB235_250.out
        have hnb50 := NB250_242.out
        have hnc50 := NB242_250.out
        have hcz51_0 : w32.cell? ⟨gb250, 0, none⟩ = some (.int .i64 0) := (blk_cell BK250.out 0).trans rfl
        have hcz51_1 : w32.cell? ⟨gb250, 1, none⟩ = some (.int .i64 0) := (blk_cell BK250.out 1).trans rfl
        have hcz51_2 : w32.cell? ⟨gb250, 2, none⟩ = some (.int .i64 0) := (blk_cell BK250.out 2).trans rfl
        have hcz51_3 : w32.cell? ⟨gb250, 3, none⟩ = some (.slice none 0 0) := (blk_cell BK250.out 3).trans rfl
        have hfz51_0 := blk_frozen BK250.out 0
        have hfz51_1 := blk_frozen BK250.out 1
        have hfz51_2 := blk_frozen BK250.out 2
        have hfz51_3 := blk_frozen BK250.out 3
        have hnb52 := NB235_220.out
        have hnc52 := NB220_235.out
        have hnb53 := NB235_242.out
        have hnc53 := NB242_235.out
        have hcz54_0 : w32.cell? ⟨gb235, 0, none⟩ = some (.int .i64 t228) := (blk_cell BK235.out 0).trans rfl
        have hcz54_1 : w32.cell? ⟨gb235, 1, none⟩ = some (.int .i64 t229) := (blk_cell BK235.out 1).trans rfl
        have hcz54_2 : w32.cell? ⟨gb235, 2, none⟩ = some (.int .i64 t230) := (blk_cell BK235.out 2).trans rfl
        have hcz54_3 : w32.cell? ⟨gb235, 3, none⟩ = some (.slice Ao23 t231.length co23) := (blk_cell BK235.out 3).trans rfl
        have hfz54_0 := blk_frozen BK235.out 0
        have hfz54_1 := blk_frozen BK235.out 1
        have hfz54_2 := blk_frozen BK235.out 2
        have hfz54_3 := blk_frozen BK235.out 3
        go_wp2_with (first | ((with_reducible refine gate_callee (f := 42) rfl ?_); refine goesL_ (some 38) rfl rfl Try.func42 (by kernel_rfl) rfl #[.agg #[.int .i64 t243, .int .i64 t244, .int .i64 t245, .slice Ao37 t246.length co37], .agg #[.int .i64 t228, .int .i64 t229, .int .i64 t230, .slice Ao23 t231.length co23]] rfl (by (try simp only [List.map_toArray, List.map_cons, List.map_nil]); first | done | rfl | (simp only [List.length_drop, List.length_take]; rfl)) ?_; (with_reducible refine (laws_eqTable.calls k t243 t244 t245 _ _ t246 t228 t229 t230 _ _ t231 false _ ?side1 ?side2 ?side3 ?side4 A38.out).mono ?_); (case side1 => refine (Kd.R_reads' (e := 23) (base := w.heap.size) (ok := fun k_ => (((True ∧ some k_ ≠ (.slice Ao18 t225.length co18 : Value).ownBlock) ∧ some k_ ≠ (.slice Ao23 t231.length co23 : Value).ownBlock) ∧ some k_ ≠ (.slice Ao30 t239.length co30 : Value).ownBlock)) (n := t246.length) (c := co37) ?_).2.2; exact (by (with_reducible repeat (first | apply Kd.R_alloc | apply Kd.R_drewN | apply Kd.R_drew)); exact (Kd.R_mono (Kd.R_far (p := ⟨gb250, 3, none⟩) (Kd.R_far (p := ⟨gb250, 2, none⟩) (Kd.R_far (p := ⟨gb250, 1, none⟩) (Kd.R_far (p := ⟨gb250, 0, none⟩) (Kd.R_types HO248.out BK250.out (by decide)) (fun _ hk => hk.2) (.int .i64 t243)) (fun _ hk => hk.2) (.int .i64 t244)) (fun _ hk => hk.2) (.int .i64 t245)) (fun _ hk => hk.2) (.slice Ao37 t246.length co37)) (fun _ h_ => h_.1)))); (case side2 => exact (Kd.R_reads' HO248.out).2.1); (case side3 => refine (Kd.R_reads' (e := 23) (base := w.heap.size) (ok := fun k_ => (((True ∧ some k_ ≠ (.slice Ao18 t225.length co18 : Value).ownBlock) ∧ some k_ ≠ (.slice Ao30 t239.length co30 : Value).ownBlock) ∧ some k_ ≠ (.slice Ao37 t246.length co37 : Value).ownBlock)) (n := t231.length) (c := co23) ?_).2.2; exact (by (with_reducible repeat (first | apply Kd.R_alloc | apply Kd.R_drewN | apply Kd.R_drew)); exact (Kd.R_mono (Kd.R_far (p := ⟨gb250, 3, none⟩) (Kd.R_far (p := ⟨gb250, 2, none⟩) (Kd.R_far (p := ⟨gb250, 1, none⟩) (Kd.R_far (p := ⟨gb250, 0, none⟩) (Kd.R_types HO233.out BK250.out (by decide)) (fun _ hk => hk.2) (.int .i64 t243)) (fun _ hk => hk.2) (.int .i64 t244)) (fun _ hk => hk.2) (.int .i64 t245)) (fun _ hk => hk.2) (.slice Ao37 t246.length co37)) (fun _ h_ => h_.1)))); (case side4 => exact (Kd.R_reads' HO233.out).2.1); rintro e w55 ⟨rfl, hb⟩; refine ⟨_, rfl, ?_⟩; have n0_ := Aside0.mk (Kd.R_below (by (with_reducible repeat (first | apply Kd.R_alloc | apply Kd.R_drewN | apply Kd.R_drew)); exact (Kd.R_mono (Kd.R_far (p := ⟨gb250, 3, none⟩) (Kd.R_far (p := ⟨gb250, 2, none⟩) (Kd.R_far (p := ⟨gb250, 1, none⟩) (Kd.R_far (p := ⟨gb250, 0, none⟩) (Kd.R_types HO227.out BK250.out (by decide)) (fun _ hk => hk.2) (.int .i64 t243)) (fun _ hk => hk.2) (.int .i64 t244)) (fun _ hk => hk.2) (.int .i64 t245)) (fun _ hk => hk.2) (.slice Ao37 t246.length co37)) (fun _ h_ => h_.1))) hb); have n1_ := Aside0.mk (Kd.R_below (by (with_reducible repeat (first | apply Kd.R_alloc | apply Kd.R_drewN | apply Kd.R_drew)); exact (Kd.R_mono (Kd.R_far (p := ⟨gb250, 3, none⟩) (Kd.R_far (p := ⟨gb250, 2, none⟩) (Kd.R_far (p := ⟨gb250, 1, none⟩) (Kd.R_far (p := ⟨gb250, 0, none⟩) (Kd.R_types HO233.out BK250.out (by decide)) (fun _ hk => hk.2) (.int .i64 t243)) (fun _ hk => hk.2) (.int .i64 t244)) (fun _ hk => hk.2) (.int .i64 t245)) (fun _ hk => hk.2) (.slice Ao37 t246.length co37)) (fun _ h_ => h_.1))) hb); have n2_ := Aside0.mk (Kd.R_below (by (with_reducible repeat (first | apply Kd.R_alloc | apply Kd.R_drewN | apply Kd.R_drew)); exact (Kd.R_mono (Kd.R_far (p := ⟨gb250, 3, none⟩) (Kd.R_far (p := ⟨gb250, 2, none⟩) (Kd.R_far (p := ⟨gb250, 1, none⟩) (Kd.R_far (p := ⟨gb250, 0, none⟩) (Kd.R_types HO241.out BK250.out (by decide)) (fun _ hk => hk.2) (.int .i64 t243)) (fun _ hk => hk.2) (.int .i64 t244)) (fun _ hk => hk.2) (.int .i64 t245)) (fun _ hk => hk.2) (.slice Ao37 t246.length co37)) (fun _ h_ => h_.1))) hb); have n3_ := Aside0.mk (Kd.R_below (by (with_reducible repeat (first | apply Kd.R_alloc | apply Kd.R_drewN | apply Kd.R_drew)); exact (Kd.R_mono (Kd.R_far (p := ⟨gb250, 3, none⟩) (Kd.R_far (p := ⟨gb250, 2, none⟩) (Kd.R_far (p := ⟨gb250, 1, none⟩) (Kd.R_far (p := ⟨gb250, 0, none⟩) (Kd.R_types HO248.out BK250.out (by decide)) (fun _ hk => hk.2) (.int .i64 t243)) (fun _ hk => hk.2) (.int .i64 t244)) (fun _ hk => hk.2) (.int .i64 t245)) (fun _ hk => hk.2) (.slice Ao37 t246.length co37)) (fun _ h_ => h_.1))) hb); have n4_ := Aside0.mk (blk_below (g := gb220) (o := .cells #[.int .i64 a0_0, .int .i64 a0_1, .int .i64 a0_2, .slice A0_3 l0_3.length c0_3] 64 (0, 0)) (by (with_reducible repeat (first | refine blk_drewN ?_ _ | refine blk_drew ?_ | refine blk_alloc ?_ _)); refine blk_far ?_ NB220_250.out _; (with_reducible repeat (first | refine blk_drewN ?_ _ | refine blk_drew ?_ | refine blk_alloc ?_ _)); refine blk_far ?_ NB220_250.out _; (with_reducible repeat (first | refine blk_drewN ?_ _ | refine blk_drew ?_ | refine blk_alloc ?_ _)); refine blk_far ?_ NB220_250.out _; (with_reducible repeat (first | refine blk_drewN ?_ _ | refine blk_drew ?_ | refine blk_alloc ?_ _)); refine blk_far ?_ NB220_250.out _; (with_reducible repeat (first | refine blk_drewN ?_ _ | refine blk_drew ?_ | refine blk_alloc ?_ _)); exact BK220.out) hb); have n5_ := Aside0.mk (blk_below (g := gb235) (o := .cells #[.int .i64 t228, .int .i64 t229, .int .i64 t230, .slice Ao23 t231.length co23] 69 (0, 0)) (by (with_reducible repeat (first | refine blk_drewN ?_ _ | refine blk_drew ?_ | refine blk_alloc ?_ _)); refine blk_far ?_ NB235_250.out _; (with_reducible repeat (first | refine blk_drewN ?_ _ | refine blk_drew ?_ | refine blk_alloc ?_ _)); refine blk_far ?_ NB235_250.out _; (with_reducible repeat (first | refine blk_drewN ?_ _ | refine blk_drew ?_ | refine blk_alloc ?_ _)); refine blk_far ?_ NB235_250.out _; (with_reducible repeat (first | refine blk_drewN ?_ _ | refine blk_drew ?_ | refine blk_alloc ?_ _)); refine blk_far ?_ NB235_250.out _; (with_reducible repeat (first | refine blk_drewN ?_ _ | refine blk_drew ?_ | refine blk_alloc ?_ _)); exact BK235.out) hb); have n6_ := Aside0.mk (blk_below (g := gb242) (o := .cells #[.int .i64 t236, .int .i64 t237, .int .i64 t238, .slice Ao30 t239.length co30] 69 (0, 0)) (by (with_reducible repeat (first | refine blk_drewN ?_ _ | refine blk_drew ?_ | refine blk_alloc ?_ _)); refine blk_far ?_ NB242_250.out _; (with_reducible repeat (first | refine blk_drewN ?_ _ | refine blk_drew ?_ | refine blk_alloc ?_ _)); refine blk_far ?_ NB242_250.out _; (with_reducible repeat (first | refine blk_drewN ?_ _ | refine blk_drew ?_ | refine blk_alloc ?_ _)); refine blk_far ?_ NB242_250.out _; (with_reducible repeat (first | refine blk_drewN ?_ _ | refine blk_drew ?_ | refine blk_alloc ?_ _)); refine blk_far ?_ NB242_250.out _; (with_reducible repeat (first | refine blk_drewN ?_ _ | refine blk_drew ?_ | refine blk_alloc ?_ _)); exact BK242.out) hb); have n7_ := Aside0.mk (blk_below (g := gb250) (o := .cells #[.int .i64 t243, .int .i64 t244, .int .i64 t245, .slice Ao37 t246.length co37] 69 (0, 0)) (by (with_reducible repeat (first | refine blk_drewN ?_ _ | refine blk_drew ?_ | refine blk_alloc ?_ _)); refine blk_put (cs := #[.int .i64 t243, .int .i64 t244, .int .i64 t245, .slice none 0 0]) ?_ 3 _ rfl; (with_reducible repeat (first | refine blk_drewN ?_ _ | refine blk_drew ?_ | refine blk_alloc ?_ _)); refine blk_put (cs := #[.int .i64 t243, .int .i64 t244, .int .i64 0, .slice none 0 0]) ?_ 2 _ rfl; (with_reducible repeat (first | refine blk_drewN ?_ _ | refine blk_drew ?_ | refine blk_alloc ?_ _)); refine blk_put (cs := #[.int .i64 t243, .int .i64 0, .int .i64 0, .slice none 0 0]) ?_ 1 _ rfl; (with_reducible repeat (first | refine blk_drewN ?_ _ | refine blk_drew ?_ | refine blk_alloc ?_ _)); refine blk_put (cs := #[.int .i64 0, .int .i64 0, .int .i64 0, .slice none 0 0]) ?_ 0 _ rfl; (with_reducible repeat (first | refine blk_drewN ?_ _ | refine blk_drew ?_ | refine blk_alloc ?_ _)); exact BK250.out) hb); have n8_ := Aside0.mk (below_step (by repeat (first | (with_reducible first | exact HB.out | apply below_alloc | apply pw_below_drewN | apply below_drew1 | refine below_set ?_ GE220.out | refine below_set ?_ GE235.out | refine below_set ?_ GE242.out | refine below_set ?_ GE250.out) | exact HB.out)) hb); clear HO227; clear HO233; clear HO241; clear HO248; clear BK220; clear BK235; clear BK242; clear BK250; clear HB; have HO227 := n0_; have HO233 := n1_; have HO241 := n2_; have HO248 := n3_; have BK220 := n4_; have BK235 := n5_; have BK242 := n6_; have BK250 := n7_; have HB := n8_; clear n0_ n1_ n2_ n3_ n4_ n5_ n6_ n7_ n8_; (try clear hb); (try clear hb2); (try clear hk); (try clear hi)))
        go_meet
        case rel => exact ⟨_, (true), (by first | rfl | (simp; done) | (simp [*]; done)), H', ⟨by first | omega | exact Nat.le_refl _⟩, ⟨by (with_reducible repeat (first | apply Kd.R_alloc | apply Kd.R_drewN | apply Kd.R_drew)); exact Kd.R_mono HO233.out (fun _ hk => ⟨hk.1.2, hk.2⟩)⟩, ⟨by (with_reducible repeat (first | apply Kd.R_alloc | apply Kd.R_drewN | apply Kd.R_drew)); exact Kd.R_mono HO241.out (fun _ hk => ⟨hk.1.2, hk.2⟩)⟩, ⟨by (with_reducible repeat (first | apply Kd.R_alloc | apply Kd.R_drewN | apply Kd.R_drew)); exact Kd.R_mono HO248.out (fun _ hk => ⟨hk.1.2, hk.2⟩)⟩, ⟨by (with_reducible repeat (first | refine blk_drewN ?_ _ | refine blk_drew ?_ | refine blk_alloc ?_ _)); exact BK220.out⟩, ⟨by (with_reducible repeat (first | refine blk_drewN ?_ _ | refine blk_drew ?_ | refine blk_alloc ?_ _)); exact BK235.out⟩, ⟨by (with_reducible repeat (first | refine blk_drewN ?_ _ | refine blk_drew ?_ | refine blk_alloc ?_ _)); exact BK242.out⟩, ⟨by (with_reducible repeat (first | refine blk_drewN ?_ _ | refine blk_drew ?_ | refine blk_alloc ?_ _)); exact BK250.out⟩, ⟨by repeat (first | (with_reducible first | exact HB.out | apply below_alloc | apply pw_below_drewN | apply below_drew1 | refine below_set ?_ GE220.out | refine below_set ?_ GE235.out | refine below_set ?_ GE242.out | refine below_set ?_ GE250.out) | exact HB.out)⟩⟩
    case rest =>
      clear HC12
      try clear c2
      try clear p2
      try clear c3
      try clear c4
      try clear c4b0
      try clear c5
      try clear c9
      try clear c21
      try clear c27
      try clear c28
      try clear c33
      try clear c34
      try clear c35
      try clear c38
      try clear c39
      try clear c40
      try clear c41
      try clear c42
      try clear c44
      try clear c45
      try clear c46
      try clear c48
      try clear c49
      try clear c50
      try clear c52
      try clear c53
      try clear hcz14_0
      try clear hcz14_1
      try clear hcz14_2
      try clear hcz14_3
      try clear hcz16_0
      try clear hcz16_1
      try clear hcz16_2
      try clear hcz16_3
      try clear hcz22_0
      try clear hcz22_1
      try clear hcz22_2
      try clear hcz22_3
      try clear hcz24_0
      try clear hcz24_1
      try clear hcz24_2
      try clear hcz24_3
      try clear hcz29_0
      try clear hcz29_1
      try clear hcz29_2
      try clear hcz29_3
      try clear hcz36_0
      try clear hcz36_1
      try clear hcz36_2
      try clear hcz36_3
      try clear hcz43_0
      try clear hcz43_1
      try clear hcz43_2
      try clear hcz43_3
      try clear hcz46_0
      try clear hcz46_1
      try clear hcz46_2
      try clear hcz46_3
      try clear hcz51_0
      try clear hcz51_1
      try clear hcz51_2
      try clear hcz51_3
      try clear hcz54_0
      try clear hcz54_1
      try clear hcz54_2
      try clear hcz54_3
      try clear hcz6_0
      try clear hcz6_1
      try clear hcz6_2
      try clear hcz6_3
      try clear hfz14_0
      try clear hfz14_1
      try clear hfz14_2
      try clear hfz14_3
      try clear hfz16_0
      try clear hfz16_1
      try clear hfz16_2
      try clear hfz16_3
      try clear hfz22_0
      try clear hfz22_1
      try clear hfz22_2
      try clear hfz22_3
      try clear hfz24_0
      try clear hfz24_1
      try clear hfz24_2
      try clear hfz24_3
      try clear hfz29_0
      try clear hfz29_1
      try clear hfz29_2
      try clear hfz29_3
      try clear hfz36_0
      try clear hfz36_1
      try clear hfz36_2
      try clear hfz36_3
      try clear hfz43_0
      try clear hfz43_1
      try clear hfz43_2
      try clear hfz43_3
      try clear hfz46_0
      try clear hfz46_1
      try clear hfz46_2
      try clear hfz46_3
      try clear hfz51_0
      try clear hfz51_1
      try clear hfz51_2
      try clear hfz51_3
      try clear hfz54_0
      try clear hfz54_1
      try clear hfz54_2
      try clear hfz54_3
      try clear hfz6_0
      try clear hfz6_1
      try clear hfz6_2
      try clear hfz6_3
      obtain ⟨kq, x44_11, rfl, HA, HJ11, HO_236003, HO_243003, HO_251003, BK220, BK235, BK242, BK250, HB⟩ := hcut
      cases kq with
      | zero => exact absurd HA.out (by simp [laws_FnExactTableCap.j0])
      | succ kj11 =>
        have H := HA.out
        clear HA
        simp only [laws_FnExactTableCap.j0] at H
        by_cases c56 : x44_11 = true
        · subst c56
          have H1 : (some false) = some r := by rw [if_pos rfl] at H; exact H
          clear H
          have H := H1
          clear H1
          obtain rfl := Option.some.inj H
          go_wp2
          go_ret
          exact ⟨by first | rfl | (simp [errW_none, errW_some] <;> rfl) | (simp [*, errW_none, errW_some] <;> rfl), by repeat (first | (with_reducible first | exact HB.out | apply below_alloc | apply pw_below_drewN | apply below_drew1 | refine below_set ?_ GE220.out | refine below_set ?_ GE235.out | refine below_set ?_ GE242.out | refine below_set ?_ GE250.out) | exact HB.out)⟩
        · replace c56 := Bool.eq_false_iff.mpr c56
          subst c56
          have H1 : ((laws_toTable.f kj11 a0_0 a0_1 a0_2 l0_3).bind fun bt252 => ((laws_eqTable.f kj11 t236 t237 t238 t239 bt252.1 bt252.2.1 bt252.2.2.1 bt252.2.2.2).bind fun t258 => (if t258 = true then ((laws_markTable.f kj11 t236 t237 t238 t239 1).bind fun bt259 => (if bt259.1 < 0 then (laws_FnExactTableCap.j1 kj11 a1 t234 true a0_0 a0_1 a0_2 l0_3 t228 t229 t230 t231 t243 t244 t245 t246) else ((laws_eqTable.f kj11 t243 t244 t245 t246 t228 t229 t230 t231).bind fun t261 => (if t261 = true then (laws_FnExactTableCap.j1 kj11 a1 t234 (t249 != t234) a0_0 a0_1 a0_2 l0_3 t228 t229 t230 t231 t243 t244 t245 t246) else (laws_FnExactTableCap.j1 kj11 a1 t234 true a0_0 a0_1 a0_2 l0_3 t228 t229 t230 t231 t243 t244 t245 t246))))) else (some false)))) = some r := by rw [if_neg (show ¬ (false = true) by decide)] at H; exact H
          clear H
          have H := H1
          clear H1
          replace H := Option.bind_eq_some_iff.mp H
          obtain ⟨⟨t252, t253, t254, t255⟩, A570, H⟩ := H
          replace H : ((laws_eqTable.f kj11 t236 t237 t238 t239 t252 t253 t254 t255).bind fun t258 => (if t258 = true then ((laws_markTable.f kj11 t236 t237 t238 t239 1).bind fun bt259 => (if bt259.1 < 0 then (laws_FnExactTableCap.j1 kj11 a1 t234 true a0_0 a0_1 a0_2 l0_3 t228 t229 t230 t231 t243 t244 t245 t246) else ((laws_eqTable.f kj11 t243 t244 t245 t246 t228 t229 t230 t231).bind fun t261 => (if t261 = true then (laws_FnExactTableCap.j1 kj11 a1 t234 (t249 != t234) a0_0 a0_1 a0_2 l0_3 t228 t229 t230 t231 t243 t244 t245 t246) else (laws_FnExactTableCap.j1 kj11 a1 t234 true a0_0 a0_1 a0_2 l0_3 t228 t229 t230 t231 t243 t244 t245 t246))))) else (some false))) = some r := H
          have A57 := Aside0.mk A570
          clear A570
          replace H := Option.bind_eq_some_iff.mp H
          obtain ⟨t258, A580, H⟩ := H
          replace H : (if t258 = true then ((laws_markTable.f kj11 t236 t237 t238 t239 1).bind fun bt259 => (if bt259.1 < 0 then (laws_FnExactTableCap.j1 kj11 a1 t234 true a0_0 a0_1 a0_2 l0_3 t228 t229 t230 t231 t243 t244 t245 t246) else ((laws_eqTable.f kj11 t243 t244 t245 t246 t228 t229 t230 t231).bind fun t261 => (if t261 = true then (laws_FnExactTableCap.j1 kj11 a1 t234 (t249 != t234) a0_0 a0_1 a0_2 l0_3 t228 t229 t230 t231 t243 t244 t245 t246) else (laws_FnExactTableCap.j1 kj11 a1 t234 true a0_0 a0_1 a0_2 l0_3 t228 t229 t230 t231 t243 t244 t245 t246))))) else (some false)) = some r := H
          have A58 := Aside0.mk A580
          clear A580
          by_cases c59 : t258 = true
          · subst c59
            have H1 : ((laws_markTable.f kj11 t236 t237 t238 t239 1).bind fun bt259 => (if bt259.1 < 0 then (laws_FnExactTableCap.j1 kj11 a1 t234 true a0_0 a0_1 a0_2 l0_3 t228 t229 t230 t231 t243 t244 t245 t246) else ((laws_eqTable.f kj11 t243 t244 t245 t246 t228 t229 t230 t231).bind fun t261 => (if t261 = true then (laws_FnExactTableCap.j1 kj11 a1 t234 (t249 != t234) a0_0 a0_1 a0_2 l0_3 t228 t229 t230 t231 t243 t244 t245 t246) else (laws_FnExactTableCap.j1 kj11 a1 t234 true a0_0 a0_1 a0_2 l0_3 t228 t229 t230 t231 t243 t244 t245 t246))))) = some r := by rw [if_pos rfl] at H; exact H
            clear H
            have H := H1
            clear H1
            replace H := Option.bind_eq_some_iff.mp H
            obtain ⟨⟨t259, t260⟩, A600, H⟩ := H
            replace H : (if t259 < 0 then (laws_FnExactTableCap.j1 kj11 a1 t234 true a0_0 a0_1 a0_2 l0_3 t228 t229 t230 t231 t243 t244 t245 t246) else ((laws_eqTable.f kj11 t243 t244 t245 t246 t228 t229 t230 t231).bind fun t261 => (if t261 = true then (laws_FnExactTableCap.j1 kj11 a1 t234 (t249 != t234) a0_0 a0_1 a0_2 l0_3 t228 t229 t230 t231 t243 t244 t245 t246) else (laws_FnExactTableCap.j1 kj11 a1 t234 true a0_0 a0_1 a0_2 l0_3 t228 t229 t230 t231 t243 t244 t245 t246)))) = some r := H
            have A60 := Aside0.mk A600
            clear A600
            have HC61 := Aside0.mk H
            clear H
            try go_wp2
            have n0_ := Aside0.mk (Kd.R_drew HO_236003.out)
            have n1_ := Aside0.mk (Kd.R_drew HO_243003.out)
            have n2_ := Aside0.mk (Kd.R_drew HO_251003.out)
            have n3_ := Aside0.mk (blk_drew BK220.out)
            have n4_ := Aside0.mk (blk_drew BK235.out)
            have n5_ := Aside0.mk (blk_drew BK242.out)
            have n6_ := Aside0.mk (blk_drew BK250.out)
            have n7_ := Aside0.mk (below_drew1 HB.out)
            clear HO_236003
            clear HO_243003
            clear HO_251003
            clear BK220
            clear BK235
            clear BK242
            clear BK250
            clear HB
            have HO_236003 := n0_
            have HO_243003 := n1_
            have HO_251003 := n2_
            have BK220 := n3_
            have BK235 := n4_
            have BK242 := n5_
            have BK250 := n6_
            have HB := n7_
            clear n0_ n1_ n2_ n3_ n4_ n5_ n6_ n7_
            refine start_ (n := 5) (S := fun w' => w'.cell? ⟨gb242, 0, none⟩ = some (.int .i64 t236) ∧ w'.cell? ⟨gb242, 1, none⟩ = some (.int .i64 t237) ∧ w'.cell? ⟨gb242, 2, none⟩ = some (.int .i64 t238) ∧ w'.cell? ⟨gb242, 3, none⟩ = some (.slice Ao30 t239.length co30) ∧ w'.cell? ⟨gb220, 0, none⟩ = some (.int .i64 a0_0) ∧ w'.cell? ⟨gb220, 1, none⟩ = some (.int .i64 a0_1) ∧ w'.cell? ⟨gb220, 2, none⟩ = some (.int .i64 a0_2) ∧ w'.cell? ⟨gb220, 3, none⟩ = some (.slice A0_3 l0_3.length c0_3)) (ds := []) #[false, false, false, false, false] (by kernel_rfl) rfl rfl ⟨(blk_cell BK242.out 0).trans rfl, (blk_cell BK242.out 1).trans rfl, (blk_cell BK242.out 2).trans rfl, (blk_cell BK242.out 3).trans rfl, (blk_cell BK220.out 0).trans rfl, (blk_cell BK220.out 1).trans rfl, (blk_cell BK220.out 2).trans rfl, (blk_cell BK220.out 3).trans rfl⟩ (fun hHeld => ?_)
            generalize wc.drew = w62 at HO_236003 HO_243003 HO_251003 BK220 BK235 BK242 BK250 HB hHeld ⊢
            refine take_ (i := 0) (N := some 45) (v := ?_) (a' := ?_) #[true, false, false, false, false] rfl rfl (by kernel_rfl) (fun _ _ _ h => h) (Or.inl ⟨by rfl, ?_⟩) hHeld ?_ ?_
            rotate_left
            · rintro w' ⟨s0, s1, s2, s3, s4, s5, s6, s7⟩
              go_simp
              with_reducible rfl
            rotate_left
            · simp only [Act.put, List.setIfInBounds_toArray, List.set_cons_zero, List.set_cons_succ, i64_w, i32_w]
              rfl
            refine take_ (i := 1) (N := some 46) (v := ?_) (a' := ?_) #[true, true, false, false, false] rfl rfl (by kernel_rfl) (fun _ _ _ h => h) (Or.inl ⟨by rfl, ?_⟩) hHeld ?_ ?_
            rotate_left
            · rintro w' ⟨s0, s1, s2, s3, s4, s5, s6, s7⟩
              go_simp
              with_reducible rfl
            rotate_left
            · simp only [Act.put, List.setIfInBounds_toArray, List.set_cons_zero, List.set_cons_succ, i64_w, i32_w]
              rfl
            refine one_ (i := 2) (N := some 47) #[true, true, true, false, false] rfl rfl (by kernel_rfl) (by decide) (fun K hK => ?_)
            refine goes_ Try.func40 (by kernel_rfl) rfl #[.agg #[.int .i64 a0_0, .int .i64 a0_1, .int .i64 a0_2, .slice A0_3 l0_3.length c0_3]] (by rfl) rfl rfl (by (try simp only [List.map_toArray, List.map_cons, List.map_nil]); first | done | rfl | (simp only [List.length_drop, List.length_take]; rfl)) ?_
            with_reducible refine (laws_toTable.calls kj11 a0_0 a0_1 a0_2 _ _ l0_3 t252 t253 t254 t255 _ ?side1 ?side2 A57.out).mono ?_
            (case side1 => repeat (first | exact (Kd.C_below HR0_3.out HB.out) | (with_reducible refine Kd.C_alloc ?_ _) | (with_reducible refine Kd.C_drewN ?_ _) | (with_reducible refine Kd.C_drew ?_)))
            (case side2 => exact HC0_3.out)
            rintro e w63 ⟨v256, rfl, ho0, hb⟩
            refine ⟨_, rfl, ?_⟩
            have n0_ := Aside0.mk (Kd.R_elder' (by (with_reducible repeat (first | apply Kd.R_alloc | apply Kd.R_drewN | apply Kd.R_drew)); exact HO_236003.out) (Kd.R_base ho0) hb)
            have n1_ := Aside0.mk (Kd.R_elder' (by (with_reducible repeat (first | apply Kd.R_alloc | apply Kd.R_drewN | apply Kd.R_drew)); exact HO_243003.out) (Kd.R_base ho0) hb)
            have n2_ := Aside0.mk (Kd.R_elder' (by (with_reducible repeat (first | apply Kd.R_alloc | apply Kd.R_drewN | apply Kd.R_drew)); exact HO_251003.out) (Kd.R_base ho0) hb)
            have n3_ := Aside0.mk (Kd.R_lower (Kd.R_new' (Kd.R_new' (Kd.R_new' ho0 (Kd.R_lt (by (with_reducible repeat (first | apply Kd.R_alloc | apply Kd.R_drewN | apply Kd.R_drew)); exact HO_236003.out))) (Kd.R_lt (by (with_reducible repeat (first | apply Kd.R_alloc | apply Kd.R_drewN | apply Kd.R_drew)); exact HO_243003.out))) (Kd.R_lt (by (with_reducible repeat (first | apply Kd.R_alloc | apply Kd.R_drewN | apply Kd.R_drew)); exact HO_251003.out))) (below_size (by repeat (first | (with_reducible first | exact HB.out | apply below_alloc | apply pw_below_drewN | apply below_drew1 | refine below_set ?_ GE220.out | refine below_set ?_ GE235.out | refine below_set ?_ GE242.out | refine below_set ?_ GE250.out) | exact HB.out))))
            have n4_ := Aside0.mk (blk_below (g := gb220) (o := .cells #[.int .i64 a0_0, .int .i64 a0_1, .int .i64 a0_2, .slice A0_3 l0_3.length c0_3] 64 (0, 0)) (by (with_reducible repeat (first | refine blk_drewN ?_ _ | refine blk_drew ?_ | refine blk_alloc ?_ _)); exact BK220.out) hb)
            have n5_ := Aside0.mk (blk_below (g := gb235) (o := .cells #[.int .i64 t228, .int .i64 t229, .int .i64 t230, .slice Ao23 t231.length co23] 69 (0, 0)) (by (with_reducible repeat (first | refine blk_drewN ?_ _ | refine blk_drew ?_ | refine blk_alloc ?_ _)); exact BK235.out) hb)
            have n6_ := Aside0.mk (blk_below (g := gb242) (o := .cells #[.int .i64 t236, .int .i64 t237, .int .i64 t238, .slice Ao30 t239.length co30] 69 (0, 0)) (by (with_reducible repeat (first | refine blk_drewN ?_ _ | refine blk_drew ?_ | refine blk_alloc ?_ _)); exact BK242.out) hb)
            have n7_ := Aside0.mk (blk_below (g := gb250) (o := .cells #[.int .i64 t243, .int .i64 t244, .int .i64 t245, .slice Ao37 t246.length co37] 69 (0, 0)) (by (with_reducible repeat (first | refine blk_drewN ?_ _ | refine blk_drew ?_ | refine blk_alloc ?_ _)); exact BK250.out) hb)
            have n8_ := Aside0.mk (below_step (by repeat (first | (with_reducible first | exact HB.out | apply below_alloc | apply pw_below_drewN | apply below_drew1 | refine below_set ?_ GE220.out | refine below_set ?_ GE235.out | refine below_set ?_ GE242.out | refine below_set ?_ GE250.out) | exact HB.out)) hb)
            clear HO_236003
            clear HO_243003
            clear HO_251003
            clear BK220
            clear BK235
            clear BK242
            clear BK250
            clear HB
            have HO_236003 := n0_
            have HO_243003 := n1_
            have HO_251003 := n2_
            have HO257 := n3_
            have BK220 := n4_
            have BK235 := n5_
            have BK242 := n6_
            have BK250 := n7_
            have HB := n8_
            clear n0_ n1_ n2_ n3_ n4_ n5_ n6_ n7_ n8_
            (try clear hb)
            (try clear hb2)
            (try clear hk)
            (try clear hi)
            (try clear ho0)
            obtain ⟨Ao64, co64, eo64⟩ := Kd.R_slice HO257.out
            (first | subst eo64 | (injection eo64 with f1_ f2_ f3_; have f4_ := f1_.symm; have f5_ := f3_.symm; clear f1_ f2_ f3_; subst f4_; subst f5_))
            refine hK.out _ _ ⟨(blk_cell BK242.out 0).trans rfl, (blk_cell BK242.out 1).trans rfl, (blk_cell BK242.out 2).trans rfl, (blk_cell BK242.out 3).trans rfl, (blk_cell BK220.out 0).trans rfl, (blk_cell BK220.out 1).trans rfl, (blk_cell BK220.out 2).trans rfl, (blk_cell BK220.out 3).trans rfl⟩ (fun hHeld => ?_)
            clear hK K
            refine norm_ (a' := ?_) ?_ ?_
            rotate_left
            · show Act.put _ (some 47) _ = _
              simp only [Act.put, List.setIfInBounds_toArray, List.set_cons_zero, List.set_cons_succ, i64_w, i32_w]
              rfl
            refine one_ (i := 3) (N := some 48) #[true, true, true, true, false] rfl rfl (by kernel_rfl) (by decide) (fun K hK => ?_)
            refine goes_ Try.func42 (by kernel_rfl) rfl #[.agg #[.int .i64 t236, .int .i64 t237, .int .i64 t238, .slice Ao30 t239.length co30], .agg #[.int .i64 t252, .int .i64 t253, .int .i64 t254, .slice Ao64 t255.length co64]] (by rfl) rfl rfl (by (try simp only [List.map_toArray, List.map_cons, List.map_nil]); first | done | rfl | (simp only [List.length_drop, List.length_take]; rfl)) ?_
            with_reducible refine (laws_eqTable.calls kj11 t236 t237 t238 _ _ t239 t252 t253 t254 _ _ t255 true _ ?side1 ?side2 ?side3 ?side4 A58.out).mono ?_
            (case side1 => repeat (first | exact (Kd.R_reads' HO_243003.out).2.2 | (with_reducible refine Kd.C_alloc ?_ _) | (with_reducible refine Kd.C_drewN ?_ _) | (with_reducible refine Kd.C_drew ?_)))
            (case side2 => exact (Kd.R_reads' HO_243003.out).2.1)
            (case side3 => repeat (first | exact (Kd.R_reads' HO257.out).2.2 | (with_reducible refine Kd.C_alloc ?_ _) | (with_reducible refine Kd.C_drewN ?_ _) | (with_reducible refine Kd.C_drew ?_)))
            (case side4 => exact (Kd.R_reads' HO257.out).2.1)
            rintro e w65 ⟨rfl, hb⟩
            refine ⟨_, rfl, ?_⟩
            have n0_ := Aside0.mk (Kd.R_below (by (with_reducible repeat (first | apply Kd.R_alloc | apply Kd.R_drewN | apply Kd.R_drew)); exact HO_236003.out) hb)
            have n1_ := Aside0.mk (Kd.R_below (by (with_reducible repeat (first | apply Kd.R_alloc | apply Kd.R_drewN | apply Kd.R_drew)); exact HO_243003.out) hb)
            have n2_ := Aside0.mk (Kd.R_below (by (with_reducible repeat (first | apply Kd.R_alloc | apply Kd.R_drewN | apply Kd.R_drew)); exact HO_251003.out) hb)
            have n3_ := Aside0.mk (Kd.R_below (by (with_reducible repeat (first | apply Kd.R_alloc | apply Kd.R_drewN | apply Kd.R_drew)); exact HO257.out) hb)
            have n4_ := Aside0.mk (blk_below (g := gb220) (o := .cells #[.int .i64 a0_0, .int .i64 a0_1, .int .i64 a0_2, .slice A0_3 l0_3.length c0_3] 64 (0, 0)) (by (with_reducible repeat (first | refine blk_drewN ?_ _ | refine blk_drew ?_ | refine blk_alloc ?_ _)); exact BK220.out) hb)
            have n5_ := Aside0.mk (blk_below (g := gb235) (o := .cells #[.int .i64 t228, .int .i64 t229, .int .i64 t230, .slice Ao23 t231.length co23] 69 (0, 0)) (by (with_reducible repeat (first | refine blk_drewN ?_ _ | refine blk_drew ?_ | refine blk_alloc ?_ _)); exact BK235.out) hb)
            have n6_ := Aside0.mk (blk_below (g := gb242) (o := .cells #[.int .i64 t236, .int .i64 t237, .int .i64 t238, .slice Ao30 t239.length co30] 69 (0, 0)) (by (with_reducible repeat (first | refine blk_drewN ?_ _ | refine blk_drew ?_ | refine blk_alloc ?_ _)); exact BK242.out) hb)
            have n7_ := Aside0.mk (blk_below (g := gb250) (o := .cells #[.int .i64 t243, .int .i64 t244, .int .i64 t245, .slice Ao37 t246.length co37] 69 (0, 0)) (by (with_reducible repeat (first | refine blk_drewN ?_ _ | refine blk_drew ?_ | refine blk_alloc ?_ _)); exact BK250.out) hb)
            have n8_ := Aside0.mk (below_step (by repeat (first | (with_reducible first | exact HB.out | apply below_alloc | apply pw_below_drewN | apply below_drew1 | refine below_set ?_ GE220.out | refine below_set ?_ GE235.out | refine below_set ?_ GE242.out | refine below_set ?_ GE250.out) | exact HB.out)) hb)
            clear HO_236003
            clear HO_243003
            clear HO_251003
            clear HO257
            clear BK220
            clear BK235
            clear BK242
            clear BK250
            clear HB
            have HO_236003 := n0_
            have HO_243003 := n1_
            have HO_251003 := n2_
            have HO257 := n3_
            have BK220 := n4_
            have BK235 := n5_
            have BK242 := n6_
            have BK250 := n7_
            have HB := n8_
            clear n0_ n1_ n2_ n3_ n4_ n5_ n6_ n7_ n8_
            (try clear hb)
            (try clear hb2)
            (try clear hk)
            (try clear hi)
            refine hK.out _ _ ⟨(blk_cell BK242.out 0).trans rfl, (blk_cell BK242.out 1).trans rfl, (blk_cell BK242.out 2).trans rfl, (blk_cell BK242.out 3).trans rfl, (blk_cell BK220.out 0).trans rfl, (blk_cell BK220.out 1).trans rfl, (blk_cell BK220.out 2).trans rfl, (blk_cell BK220.out 3).trans rfl⟩ (fun hHeld => ?_)
            clear hK K
            refine norm_ (a' := ?_) ?_ ?_
            rotate_left
            · show Act.put _ (some 48) _ = _
              simp only [Act.put, List.setIfInBounds_toArray, List.set_cons_zero, List.set_cons_succ, i64_w, i32_w]
              rfl
            refine pure_ (i := 4) (N := some 49) (v := ?_) (a' := ?_) #[true, true, true, true, true] rfl rfl (by kernel_rfl) (fun _ _ _ h => h) (Or.inl ⟨by rfl, ?_⟩) ?_ ?_
            rotate_left
            · intro w'
              go_simp
              with_reducible rfl
            rotate_left
            · simp only [Act.put, List.setIfInBounds_toArray, List.set_cons_zero, List.set_cons_succ, i64_w, i32_w]
              rfl
            refine done_ (by kernel_rfl) ?_
            have hnb66 := NB242_220.out
            have hnc66 := NB220_242.out
            have hnb67 := NB242_235.out
            have hnc67 := NB235_242.out
            have hnb68 := NB242_250.out
            have hnc68 := NB250_242.out
            have hcz69_0 : w65.cell? ⟨gb242, 0, none⟩ = some (.int .i64 t236) := (blk_cell BK242.out 0).trans rfl
            have hcz69_1 : w65.cell? ⟨gb242, 1, none⟩ = some (.int .i64 t237) := (blk_cell BK242.out 1).trans rfl
            have hcz69_2 : w65.cell? ⟨gb242, 2, none⟩ = some (.int .i64 t238) := (blk_cell BK242.out 2).trans rfl
            have hcz69_3 : w65.cell? ⟨gb242, 3, none⟩ = some (.slice Ao30 t239.length co30) := (blk_cell BK242.out 3).trans rfl
            have hfz69_0 := blk_frozen BK242.out 0
            have hfz69_1 := blk_frozen BK242.out 1
            have hfz69_2 := blk_frozen BK242.out 2
            have hfz69_3 := blk_frozen BK242.out 3
            go_upto_region 14 with (first | ((with_reducible refine gate_callee (f := 47) rfl ?_); refine goesL_ (some 52) rfl rfl Try.func47 (by kernel_rfl) rfl #[.agg #[.int .i64 t236, .int .i64 t237, .int .i64 t238, .slice Ao30 t239.length co30], .int .i64 1] rfl (by (try simp only [List.map_toArray, List.map_cons, List.map_nil]); first | done | rfl | (simp only [List.length_drop, List.length_take]; rfl)) ?_; (with_reducible refine (laws_markTable.calls kj11 t236 t237 t238 (fun k_ => some k_ = (.slice Ao30 t239.length co30 : Value).ownBlock) (.slice Ao30 t239.length co30) t239 1 t259 t260 w _ ?side1 ?side2 A60.out).mono ?_); (case side1 => repeat (first | (with_reducible first | exact HB.out | apply below_alloc | apply pw_below_drewN | apply below_drew1 | refine below_set ?_ GE220.out | refine below_set ?_ GE235.out | refine below_set ?_ GE242.out | refine below_set ?_ GE250.out) | exact HB.out)); (case side2 => exact Kd.R_tight rfl HO_243003.out); rintro e w70 ⟨rfl, hy0, hb, hkp⟩; refine ⟨_, rfl, ?_⟩; have n0_ := Aside0.mk (Kd.R_mono (ok' := fun k_ => some k_ ≠ (.slice Ao30 t239.length co30 : Value).ownBlock ∧ some k_ ≠ (.slice Ao37 t246.length co37 : Value).ownBlock ∧ some k_ ≠ (.slice Ao64 t255.length co64 : Value).ownBlock) (Kd.R_keptB (HO_236003.out) hkp (fun k_ hk_ hs_ => (hk_.1.1) hs_)) (fun k_ hk_ => ⟨hk_.1.1.1, hk_.1.1.2, hk_.1.2⟩)); have n1_ := Aside0.mk (Kd.R_reok rfl hy0 (fun k_ e_ => HO_243003.out.1 k_ e_)); have n2_ := Aside0.mk (Kd.R_mono (ok' := fun k_ => some k_ ≠ (.slice Ao23 t231.length co23 : Value).ownBlock ∧ some k_ ≠ (.slice Ao30 t239.length co30 : Value).ownBlock ∧ some k_ ≠ (.slice Ao64 t255.length co64 : Value).ownBlock) (Kd.R_keptB (HO_251003.out) hkp (fun k_ hk_ hs_ => (hk_.1.2) hs_)) (fun k_ hk_ => ⟨hk_.1.1.1, hk_.1.1.2, hk_.1.2⟩)); have n3_ := Aside0.mk (blk_kept (by (with_reducible repeat (first | refine blk_drewN ?_ _ | refine blk_drew ?_ | refine blk_alloc ?_ _)); exact BK220.out) hkp (fun hs_ => (fun e_ => (Kd.R_ne HO_243003.out BK220.out (by decide)) e_) hs_)); have n4_ := Aside0.mk (blk_kept (by (with_reducible repeat (first | refine blk_drewN ?_ _ | refine blk_drew ?_ | refine blk_alloc ?_ _)); exact BK235.out) hkp (fun hs_ => (fun e_ => (Kd.R_ne HO_243003.out BK235.out (by decide)) e_) hs_)); have n5_ := Aside0.mk (blk_kept (by (with_reducible repeat (first | refine blk_drewN ?_ _ | refine blk_drew ?_ | refine blk_alloc ?_ _)); exact BK242.out) hkp (fun hs_ => (fun e_ => (Kd.R_ne HO_243003.out BK242.out (by decide)) e_) hs_)); have n6_ := Aside0.mk (blk_kept (by (with_reducible repeat (first | refine blk_drewN ?_ _ | refine blk_drew ?_ | refine blk_alloc ?_ _)); exact BK250.out) hkp (fun hs_ => (fun e_ => (Kd.R_ne HO_243003.out BK250.out (by decide)) e_) hs_)); have n7_ := Aside0.mk (Kd.R_mono (ok' := fun k_ => some k_ ≠ (.slice Ao23 t231.length co23 : Value).ownBlock ∧ some k_ ≠ (.slice Ao30 t239.length co30 : Value).ownBlock ∧ some k_ ≠ (.slice Ao37 t246.length co37 : Value).ownBlock) (Kd.R_keptB (HO257.out) hkp (fun k_ hk_ hs_ => (hk_.1.2) hs_)) (fun k_ hk_ => ⟨hk_.1.1.1.2, hk_.1.1.2, hk_.1.2⟩)); have n8_ := Aside0.mk (hb); clear HO_236003; clear HO_243003; clear HO_251003; clear BK220; clear BK235; clear BK242; clear BK250; clear HO257; clear HB; have HO_236003 := n0_; have HO_243003 := n1_; have HO_251003 := n2_; have BK220 := n3_; have BK235 := n4_; have BK242 := n5_; have BK250 := n6_; have HO257 := n7_; have HB := n8_; clear n0_ n1_ n2_ n3_ n4_ n5_ n6_ n7_ n8_; (try clear hb); (try clear hkp); (try clear hy0)))
            (try simp only [Act.put, List.setIfInBounds_toArray, List.set_cons_zero, List.set_cons_succ])
            go_cut [65] (fun v65 wc => ∃ (kq : Nat) (x65_60 : Bool), v65 = .bool x65_60 ∧ Aside0 (laws_FnExactTableCap.j1 kq a1 t234 x65_60 a0_0 a0_1 a0_2 l0_3 t228 t229 t230 t231 t243 t244 t245 t246 = some r) ∧ Aside0 (kq ≤ kj11) ∧ Aside0 (Kd.R k23 23 wc w.heap.size (fun k_ => some k_ ≠ ((.slice Ao30 t239.length co30) : Value).ownBlock ∧ some k_ ≠ ((.slice Ao37 t246.length co37) : Value).ownBlock) (.slice Ao23 t231.length co23) t231) ∧ Aside0 (Kd.R k23 23 wc w.heap.size (fun k_ => some k_ ≠ ((.slice Ao23 t231.length co23) : Value).ownBlock ∧ some k_ ≠ ((.slice Ao37 t246.length co37) : Value).ownBlock) (.slice Ao30 t239.length co30) t260) ∧ Aside0 (Kd.R k23 23 wc w.heap.size (fun k_ => some k_ ≠ ((.slice Ao23 t231.length co23) : Value).ownBlock ∧ some k_ ≠ ((.slice Ao30 t239.length co30) : Value).ownBlock) (.slice Ao37 t246.length co37) t246) ∧ Aside0 (wc.heap[gb220]? = some (.cells #[.int .i64 a0_0, .int .i64 a0_1, .int .i64 a0_2, (.slice A0_3 l0_3.length c0_3)] 64 (0, 0))) ∧ Aside0 (wc.heap[gb235]? = some (.cells #[.int .i64 t228, .int .i64 t229, .int .i64 t230, (.slice Ao23 t231.length co23)] 69 (0, 0))) ∧ Aside0 (wc.heap[gb242]? = some (.cells #[.int .i64 t236, .int .i64 t237, .int .i64 t238, (.slice Ao30 t239.length co30)] 69 (0, 0))) ∧ Aside0 (wc.heap[gb250]? = some (.cells #[.int .i64 t243, .int .i64 t244, .int .i64 t245, (.slice Ao37 t246.length co37)] 69 (0, 0))) ∧ Aside0 (Below w.heap.size w wc))
            case first =>
              have H := HC61.out
              clear HC61
              by_cases c71 : t259 < 0
              · rw [if_pos c71] at H
                have c71b0 : decide (t259 < 0) = true := decide_eq_true c71
                clear c71
                (first | rw [c71b0] | (simp only [i64_w, i32_w]; rw [c71b0]) | skip)
                have H' := Aside0.mk H
                clear H
                go_wp2
                go_meet
                case rel => exact ⟨_, (true), (by first | rfl | (simp; done) | (simp [*]; done)), H', ⟨by have := HJ11.out; first | omega | exact Nat.le_refl _⟩, ⟨by (with_reducible repeat (first | apply Kd.R_alloc | apply Kd.R_drewN | apply Kd.R_drew)); exact Kd.R_mono HO_236003.out (fun _ hk => ⟨hk.1, hk.2.1⟩)⟩, ⟨by (with_reducible repeat (first | apply Kd.R_alloc | apply Kd.R_drewN | apply Kd.R_drew)); exact Kd.R_mono HO_243003.out (fun _ hk => ⟨hk.1.1, hk.1.2⟩)⟩, ⟨by (with_reducible repeat (first | apply Kd.R_alloc | apply Kd.R_drewN | apply Kd.R_drew)); exact Kd.R_mono HO_251003.out (fun _ hk => ⟨hk.1, hk.2.1⟩)⟩, ⟨by (with_reducible repeat (first | refine blk_drewN ?_ _ | refine blk_drew ?_ | refine blk_alloc ?_ _)); exact BK220.out⟩, ⟨by (with_reducible repeat (first | refine blk_drewN ?_ _ | refine blk_drew ?_ | refine blk_alloc ?_ _)); exact BK235.out⟩, ⟨by (with_reducible repeat (first | refine blk_drewN ?_ _ | refine blk_drew ?_ | refine blk_alloc ?_ _)); exact BK242.out⟩, ⟨by (with_reducible repeat (first | refine blk_drewN ?_ _ | refine blk_drew ?_ | refine blk_alloc ?_ _)); exact BK250.out⟩, ⟨by repeat (first | (with_reducible first | exact HB.out | apply below_alloc | apply pw_below_drewN | apply below_drew1 | refine below_set ?_ GE220.out | refine below_set ?_ GE235.out | refine below_set ?_ GE242.out | refine below_set ?_ GE250.out) | exact HB.out)⟩⟩
              · rw [if_neg c71] at H
                have c71b0 : decide (t259 < 0) = false := decide_eq_false c71
                clear c71
                (first | rw [c71b0] | (simp only [i64_w, i32_w]; rw [c71b0]) | skip)
                replace H := Option.bind_eq_some_iff.mp H
                obtain ⟨t261, A720, H⟩ := H
                replace H : (if t261 = true then (laws_FnExactTableCap.j1 kj11 a1 t234 (t249 != t234) a0_0 a0_1 a0_2 l0_3 t228 t229 t230 t231 t243 t244 t245 t246) else (laws_FnExactTableCap.j1 kj11 a1 t234 true a0_0 a0_1 a0_2 l0_3 t228 t229 t230 t231 t243 t244 t245 t246)) = some r := H
                have A72 := Aside0.mk A720
                clear A720
                by_cases c73 : t261 = true
                · subst c73
                  have H1 : (laws_FnExactTableCap.j1 kj11 a1 t234 (t249 != t234) a0_0 a0_1 a0_2 l0_3 t228 t229 t230 t231 t243 t244 t245 t246) = some r := by rw [if_pos rfl] at H; exact H
                  clear H
                  have H := H1
                  clear H1
                  have H' := Aside0.mk H
                  clear H
                  have hnb74 := NB250_220.out
                  have hnc74 := NB220_250.out
                  have hnb75 := NB250_235.out
                  have hnc75 := NB235_250.out
                  have hnb76 := NB250_242.out
                  have hnc76 := NB242_250.out
                  have hcz77_0 : w70.cell? ⟨gb250, 0, none⟩ = some (.int .i64 t243) := (blk_cell BK250.out 0).trans rfl
                  have hcz77_1 : w70.cell? ⟨gb250, 1, none⟩ = some (.int .i64 t244) := (blk_cell BK250.out 1).trans rfl
                  have hcz77_2 : w70.cell? ⟨gb250, 2, none⟩ = some (.int .i64 t245) := (blk_cell BK250.out 2).trans rfl
                  have hcz77_3 : w70.cell? ⟨gb250, 3, none⟩ = some (.slice Ao37 t246.length co37) := (blk_cell BK250.out 3).trans rfl
                  have hfz77_0 := blk_frozen BK250.out 0
                  have hfz77_1 := blk_frozen BK250.out 1
                  have hfz77_2 := blk_frozen BK250.out 2
                  have hfz77_3 := blk_frozen BK250.out 3
                  have hnb78 := NB235_220.out
                  have hnc78 := NB220_235.out
                  have hnb79 := NB235_242.out
                  have hnc79 := NB242_235.out
                  have hcz80_0 : w70.cell? ⟨gb235, 0, none⟩ = some (.int .i64 t228) := (blk_cell BK235.out 0).trans rfl
                  have hcz80_1 : w70.cell? ⟨gb235, 1, none⟩ = some (.int .i64 t229) := (blk_cell BK235.out 1).trans rfl
                  have hcz80_2 : w70.cell? ⟨gb235, 2, none⟩ = some (.int .i64 t230) := (blk_cell BK235.out 2).trans rfl
                  have hcz80_3 : w70.cell? ⟨gb235, 3, none⟩ = some (.slice Ao23 t231.length co23) := (blk_cell BK235.out 3).trans rfl
                  have hfz80_0 := blk_frozen BK235.out 0
                  have hfz80_1 := blk_frozen BK235.out 1
                  have hfz80_2 := blk_frozen BK235.out 2
                  have hfz80_3 := blk_frozen BK235.out 3
                  go_wp2_with (first | (go_at_call 42; (with_reducible refine (laws_eqTable.calls kj11 t243 t244 t245 _ _ t246 t228 t229 t230 _ _ t231 true _ ?side1 ?side2 ?side3 ?side4 A72.out).mono ?_); (case side1 => repeat (first | exact (Kd.R_reads' HO_251003.out).2.2 | (with_reducible refine Kd.C_alloc ?_ _) | (with_reducible refine Kd.C_drewN ?_ _) | (with_reducible refine Kd.C_drew ?_))); (case side2 => exact (Kd.R_reads' HO_251003.out).2.1); (case side3 => repeat (first | exact (Kd.R_reads' HO_236003.out).2.2 | (with_reducible refine Kd.C_alloc ?_ _) | (with_reducible refine Kd.C_drewN ?_ _) | (with_reducible refine Kd.C_drew ?_))); (case side4 => exact (Kd.R_reads' HO_236003.out).2.1); rintro e w81 ⟨rfl, hb⟩; have n0_ := Aside0.mk (Kd.R_below (by (with_reducible repeat (first | apply Kd.R_alloc | apply Kd.R_drewN | apply Kd.R_drew)); exact HO_236003.out) hb); have n1_ := Aside0.mk (Kd.R_below (by (with_reducible repeat (first | apply Kd.R_alloc | apply Kd.R_drewN | apply Kd.R_drew)); exact HO_243003.out) hb); have n2_ := Aside0.mk (Kd.R_below (by (with_reducible repeat (first | apply Kd.R_alloc | apply Kd.R_drewN | apply Kd.R_drew)); exact HO_251003.out) hb); have n3_ := Aside0.mk (Kd.R_below (by (with_reducible repeat (first | apply Kd.R_alloc | apply Kd.R_drewN | apply Kd.R_drew)); exact HO257.out) hb); have n4_ := Aside0.mk (blk_below (g := gb220) (o := .cells #[.int .i64 a0_0, .int .i64 a0_1, .int .i64 a0_2, .slice A0_3 l0_3.length c0_3] 64 (0, 0)) (by (with_reducible repeat (first | refine blk_drewN ?_ _ | refine blk_drew ?_ | refine blk_alloc ?_ _)); exact BK220.out) hb); have n5_ := Aside0.mk (blk_below (g := gb235) (o := .cells #[.int .i64 t228, .int .i64 t229, .int .i64 t230, .slice Ao23 t231.length co23] 69 (0, 0)) (by (with_reducible repeat (first | refine blk_drewN ?_ _ | refine blk_drew ?_ | refine blk_alloc ?_ _)); exact BK235.out) hb); have n6_ := Aside0.mk (blk_below (g := gb242) (o := .cells #[.int .i64 t236, .int .i64 t237, .int .i64 t238, .slice Ao30 t239.length co30] 69 (0, 0)) (by (with_reducible repeat (first | refine blk_drewN ?_ _ | refine blk_drew ?_ | refine blk_alloc ?_ _)); exact BK242.out) hb); have n7_ := Aside0.mk (blk_below (g := gb250) (o := .cells #[.int .i64 t243, .int .i64 t244, .int .i64 t245, .slice Ao37 t246.length co37] 69 (0, 0)) (by (with_reducible repeat (first | refine blk_drewN ?_ _ | refine blk_drew ?_ | refine blk_alloc ?_ _)); exact BK250.out) hb); have n8_ := Aside0.mk (below_step (by repeat (first | (with_reducible first | exact HB.out | apply below_alloc | apply pw_below_drewN | apply below_drew1 | refine below_set ?_ GE220.out | refine below_set ?_ GE235.out | refine below_set ?_ GE242.out | refine below_set ?_ GE250.out) | exact HB.out)) hb); clear HO_236003; clear HO_243003; clear HO_251003; clear HO257; clear BK220; clear BK235; clear BK242; clear BK250; clear HB; have HO_236003 := n0_; have HO_243003 := n1_; have HO_251003 := n2_; have HO257 := n3_; have BK220 := n4_; have BK235 := n5_; have BK242 := n6_; have BK250 := n7_; have HB := n8_; clear n0_ n1_ n2_ n3_ n4_ n5_ n6_ n7_ n8_; (try clear hb); (try clear hb2); (try clear hk); (try clear hi)))
                  go_meet
                  case rel => exact ⟨_, ((t249 != t234)), (by first | rfl | (simp; done) | (simp [*]; done)), H', ⟨by have := HJ11.out; first | omega | exact Nat.le_refl _⟩, ⟨by (with_reducible repeat (first | apply Kd.R_alloc | apply Kd.R_drewN | apply Kd.R_drew)); exact Kd.R_mono HO_236003.out (fun _ hk => ⟨hk.1, hk.2.1⟩)⟩, ⟨by (with_reducible repeat (first | apply Kd.R_alloc | apply Kd.R_drewN | apply Kd.R_drew)); exact Kd.R_mono HO_243003.out (fun _ hk => ⟨hk.1.1, hk.1.2⟩)⟩, ⟨by (with_reducible repeat (first | apply Kd.R_alloc | apply Kd.R_drewN | apply Kd.R_drew)); exact Kd.R_mono HO_251003.out (fun _ hk => ⟨hk.1, hk.2.1⟩)⟩, ⟨by (with_reducible repeat (first | refine blk_drewN ?_ _ | refine blk_drew ?_ | refine blk_alloc ?_ _)); exact BK220.out⟩, ⟨by (with_reducible repeat (first | refine blk_drewN ?_ _ | refine blk_drew ?_ | refine blk_alloc ?_ _)); exact BK235.out⟩, ⟨by (with_reducible repeat (first | refine blk_drewN ?_ _ | refine blk_drew ?_ | refine blk_alloc ?_ _)); exact BK242.out⟩, ⟨by (with_reducible repeat (first | refine blk_drewN ?_ _ | refine blk_drew ?_ | refine blk_alloc ?_ _)); exact BK250.out⟩, ⟨by repeat (first | (with_reducible first | exact HB.out | apply below_alloc | apply pw_below_drewN | apply below_drew1 | refine below_set ?_ GE220.out | refine below_set ?_ GE235.out | refine below_set ?_ GE242.out | refine below_set ?_ GE250.out) | exact HB.out)⟩⟩
                · replace c73 := Bool.eq_false_iff.mpr c73
                  subst c73
                  have H1 : (laws_FnExactTableCap.j1 kj11 a1 t234 true a0_0 a0_1 a0_2 l0_3 t228 t229 t230 t231 t243 t244 t245 t246) = some r := by rw [if_neg (show ¬ (false = true) by decide)] at H; exact H
                  clear H
                  have H := H1
                  clear H1
                  have H' := Aside0.mk H
                  clear H
                  have hnb82 := NB250_220.out
                  have hnc82 := NB220_250.out
                  have hnb83 := NB250_235.out
                  have hnc83 := NB235_250.out
                  have hnb84 := NB250_242.out
                  have hnc84 := NB242_250.out
                  have hcz85_0 : w70.cell? ⟨gb250, 0, none⟩ = some (.int .i64 t243) := (blk_cell BK250.out 0).trans rfl
                  have hcz85_1 : w70.cell? ⟨gb250, 1, none⟩ = some (.int .i64 t244) := (blk_cell BK250.out 1).trans rfl
                  have hcz85_2 : w70.cell? ⟨gb250, 2, none⟩ = some (.int .i64 t245) := (blk_cell BK250.out 2).trans rfl
                  have hcz85_3 : w70.cell? ⟨gb250, 3, none⟩ = some (.slice Ao37 t246.length co37) := (blk_cell BK250.out 3).trans rfl
                  have hfz85_0 := blk_frozen BK250.out 0
                  have hfz85_1 := blk_frozen BK250.out 1
                  have hfz85_2 := blk_frozen BK250.out 2
                  have hfz85_3 := blk_frozen BK250.out 3
                  have hnb86 := NB235_220.out
                  have hnc86 := NB220_235.out
                  have hnb87 := NB235_242.out
                  have hnc87 := NB242_235.out
                  have hcz88_0 : w70.cell? ⟨gb235, 0, none⟩ = some (.int .i64 t228) := (blk_cell BK235.out 0).trans rfl
                  have hcz88_1 : w70.cell? ⟨gb235, 1, none⟩ = some (.int .i64 t229) := (blk_cell BK235.out 1).trans rfl
                  have hcz88_2 : w70.cell? ⟨gb235, 2, none⟩ = some (.int .i64 t230) := (blk_cell BK235.out 2).trans rfl
                  have hcz88_3 : w70.cell? ⟨gb235, 3, none⟩ = some (.slice Ao23 t231.length co23) := (blk_cell BK235.out 3).trans rfl
                  have hfz88_0 := blk_frozen BK235.out 0
                  have hfz88_1 := blk_frozen BK235.out 1
                  have hfz88_2 := blk_frozen BK235.out 2
                  have hfz88_3 := blk_frozen BK235.out 3
                  go_wp2_with (first | (go_at_call 42; (with_reducible refine (laws_eqTable.calls kj11 t243 t244 t245 _ _ t246 t228 t229 t230 _ _ t231 false _ ?side1 ?side2 ?side3 ?side4 A72.out).mono ?_); (case side1 => repeat (first | exact (Kd.R_reads' HO_251003.out).2.2 | (with_reducible refine Kd.C_alloc ?_ _) | (with_reducible refine Kd.C_drewN ?_ _) | (with_reducible refine Kd.C_drew ?_))); (case side2 => exact (Kd.R_reads' HO_251003.out).2.1); (case side3 => repeat (first | exact (Kd.R_reads' HO_236003.out).2.2 | (with_reducible refine Kd.C_alloc ?_ _) | (with_reducible refine Kd.C_drewN ?_ _) | (with_reducible refine Kd.C_drew ?_))); (case side4 => exact (Kd.R_reads' HO_236003.out).2.1); rintro e w89 ⟨rfl, hb⟩; have n0_ := Aside0.mk (Kd.R_below (by (with_reducible repeat (first | apply Kd.R_alloc | apply Kd.R_drewN | apply Kd.R_drew)); exact HO_236003.out) hb); have n1_ := Aside0.mk (Kd.R_below (by (with_reducible repeat (first | apply Kd.R_alloc | apply Kd.R_drewN | apply Kd.R_drew)); exact HO_243003.out) hb); have n2_ := Aside0.mk (Kd.R_below (by (with_reducible repeat (first | apply Kd.R_alloc | apply Kd.R_drewN | apply Kd.R_drew)); exact HO_251003.out) hb); have n3_ := Aside0.mk (Kd.R_below (by (with_reducible repeat (first | apply Kd.R_alloc | apply Kd.R_drewN | apply Kd.R_drew)); exact HO257.out) hb); have n4_ := Aside0.mk (blk_below (g := gb220) (o := .cells #[.int .i64 a0_0, .int .i64 a0_1, .int .i64 a0_2, .slice A0_3 l0_3.length c0_3] 64 (0, 0)) (by (with_reducible repeat (first | refine blk_drewN ?_ _ | refine blk_drew ?_ | refine blk_alloc ?_ _)); exact BK220.out) hb); have n5_ := Aside0.mk (blk_below (g := gb235) (o := .cells #[.int .i64 t228, .int .i64 t229, .int .i64 t230, .slice Ao23 t231.length co23] 69 (0, 0)) (by (with_reducible repeat (first | refine blk_drewN ?_ _ | refine blk_drew ?_ | refine blk_alloc ?_ _)); exact BK235.out) hb); have n6_ := Aside0.mk (blk_below (g := gb242) (o := .cells #[.int .i64 t236, .int .i64 t237, .int .i64 t238, .slice Ao30 t239.length co30] 69 (0, 0)) (by (with_reducible repeat (first | refine blk_drewN ?_ _ | refine blk_drew ?_ | refine blk_alloc ?_ _)); exact BK242.out) hb); have n7_ := Aside0.mk (blk_below (g := gb250) (o := .cells #[.int .i64 t243, .int .i64 t244, .int .i64 t245, .slice Ao37 t246.length co37] 69 (0, 0)) (by (with_reducible repeat (first | refine blk_drewN ?_ _ | refine blk_drew ?_ | refine blk_alloc ?_ _)); exact BK250.out) hb); have n8_ := Aside0.mk (below_step (by repeat (first | (with_reducible first | exact HB.out | apply below_alloc | apply pw_below_drewN | apply below_drew1 | refine below_set ?_ GE220.out | refine below_set ?_ GE235.out | refine below_set ?_ GE242.out | refine below_set ?_ GE250.out) | exact HB.out)) hb); clear HO_236003; clear HO_243003; clear HO_251003; clear HO257; clear BK220; clear BK235; clear BK242; clear BK250; clear HB; have HO_236003 := n0_; have HO_243003 := n1_; have HO_251003 := n2_; have HO257 := n3_; have BK220 := n4_; have BK235 := n5_; have BK242 := n6_; have BK250 := n7_; have HB := n8_; clear n0_ n1_ n2_ n3_ n4_ n5_ n6_ n7_ n8_; (try clear hb); (try clear hb2); (try clear hk); (try clear hi)))
                  go_meet
                  case rel => exact ⟨_, (true), (by first | rfl | (simp; done) | (simp [*]; done)), H', ⟨by have := HJ11.out; first | omega | exact Nat.le_refl _⟩, ⟨by (with_reducible repeat (first | apply Kd.R_alloc | apply Kd.R_drewN | apply Kd.R_drew)); exact Kd.R_mono HO_236003.out (fun _ hk => ⟨hk.1, hk.2.1⟩)⟩, ⟨by (with_reducible repeat (first | apply Kd.R_alloc | apply Kd.R_drewN | apply Kd.R_drew)); exact Kd.R_mono HO_243003.out (fun _ hk => ⟨hk.1.1, hk.1.2⟩)⟩, ⟨by (with_reducible repeat (first | apply Kd.R_alloc | apply Kd.R_drewN | apply Kd.R_drew)); exact Kd.R_mono HO_251003.out (fun _ hk => ⟨hk.1, hk.2.1⟩)⟩, ⟨by (with_reducible repeat (first | refine blk_drewN ?_ _ | refine blk_drew ?_ | refine blk_alloc ?_ _)); exact BK220.out⟩, ⟨by (with_reducible repeat (first | refine blk_drewN ?_ _ | refine blk_drew ?_ | refine blk_alloc ?_ _)); exact BK235.out⟩, ⟨by (with_reducible repeat (first | refine blk_drewN ?_ _ | refine blk_drew ?_ | refine blk_alloc ?_ _)); exact BK242.out⟩, ⟨by (with_reducible repeat (first | refine blk_drewN ?_ _ | refine blk_drew ?_ | refine blk_alloc ?_ _)); exact BK250.out⟩, ⟨by repeat (first | (with_reducible first | exact HB.out | apply below_alloc | apply pw_below_drewN | apply below_drew1 | refine below_set ?_ GE220.out | refine below_set ?_ GE235.out | refine below_set ?_ GE242.out | refine below_set ?_ GE250.out) | exact HB.out)⟩⟩
            case rest =>
              clear HC61
              try clear c2
              try clear p2
              try clear c3
              try clear c4
              try clear c4b0
              try clear c5
              try clear c6
              try clear c7
              try clear c8
              try clear c9
              try clear c21
              try clear c27
              try clear c28
              try clear c33
              try clear c34
              try clear c35
              try clear c38
              try clear c39
              try clear c40
              try clear c41
              try clear c42
              try clear c44
              try clear c45
              try clear c46
              try clear c47
              try clear c48
              try clear c49
              try clear c50
              try clear c52
              try clear c53
              try clear c56
              try clear c59
              try clear c66
              try clear c67
              try clear c68
              try clear c71
              try clear c71b0
              try clear c73
              try clear c74
              try clear c75
              try clear c76
              try clear c78
              try clear c79
              try clear c82
              try clear c83
              try clear c84
              try clear c86
              try clear c87
              try clear hcz14_0
              try clear hcz14_1
              try clear hcz14_2
              try clear hcz14_3
              try clear hcz16_0
              try clear hcz16_1
              try clear hcz16_2
              try clear hcz16_3
              try clear hcz22_0
              try clear hcz22_1
              try clear hcz22_2
              try clear hcz22_3
              try clear hcz24_0
              try clear hcz24_1
              try clear hcz24_2
              try clear hcz24_3
              try clear hcz29_0
              try clear hcz29_1
              try clear hcz29_2
              try clear hcz29_3
              try clear hcz36_0
              try clear hcz36_1
              try clear hcz36_2
              try clear hcz36_3
              try clear hcz43_0
              try clear hcz43_1
              try clear hcz43_2
              try clear hcz43_3
              try clear hcz46_0
              try clear hcz46_1
              try clear hcz46_2
              try clear hcz46_3
              try clear hcz51_0
              try clear hcz51_1
              try clear hcz51_2
              try clear hcz51_3
              try clear hcz54_0
              try clear hcz54_1
              try clear hcz54_2
              try clear hcz54_3
              try clear hcz69_0
              try clear hcz69_1
              try clear hcz69_2
              try clear hcz69_3
              try clear hcz6_0
              try clear hcz6_1
              try clear hcz6_2
              try clear hcz6_3
              try clear hcz77_0
              try clear hcz77_1
              try clear hcz77_2
              try clear hcz77_3
              try clear hcz80_0
              try clear hcz80_1
              try clear hcz80_2
              try clear hcz80_3
              try clear hcz85_0
              try clear hcz85_1
              try clear hcz85_2
              try clear hcz85_3
              try clear hcz88_0
              try clear hcz88_1
              try clear hcz88_2
              try clear hcz88_3
              try clear hfz14_0
              try clear hfz14_1
              try clear hfz14_2
              try clear hfz14_3
              try clear hfz16_0
              try clear hfz16_1
              try clear hfz16_2
              try clear hfz16_3
              try clear hfz22_0
              try clear hfz22_1
              try clear hfz22_2
              try clear hfz22_3
              try clear hfz24_0
              try clear hfz24_1
              try clear hfz24_2
              try clear hfz24_3
              try clear hfz29_0
              try clear hfz29_1
              try clear hfz29_2
              try clear hfz29_3
              try clear hfz36_0
              try clear hfz36_1
              try clear hfz36_2
              try clear hfz36_3
              try clear hfz43_0
              try clear hfz43_1
              try clear hfz43_2
              try clear hfz43_3
              try clear hfz46_0
              try clear hfz46_1
              try clear hfz46_2
              try clear hfz46_3
              try clear hfz51_0
              try clear hfz51_1
              try clear hfz51_2
              try clear hfz51_3
              try clear hfz54_0
              try clear hfz54_1
              try clear hfz54_2
              try clear hfz54_3
              try clear hfz69_0
              try clear hfz69_1
              try clear hfz69_2
              try clear hfz69_3
              try clear hfz6_0
              try clear hfz6_1
              try clear hfz6_2
              try clear hfz6_3
              try clear hfz77_0
              try clear hfz77_1
              try clear hfz77_2
              try clear hfz77_3
              try clear hfz80_0
              try clear hfz80_1
              try clear hfz80_2
              try clear hfz80_3
              try clear hfz85_0
              try clear hfz85_1
              try clear hfz85_2
              try clear hfz85_3
              try clear hfz88_0
              try clear hfz88_1
              try clear hfz88_2
              try clear hfz88_3
              try clear p2
              obtain ⟨kq, x65_60, rfl, HA, HJ60, HO_236003, HO_243003, HO_251003, BK220, BK235, BK242, BK250, HB⟩ := hcut
              have hl243003_60 := (Kd.R_reads' HO_243003.out).1
              rw [hl243003_60] at HO_243003
              (try simp only [hl243003_60])
              (try simp only [hl243003_60] at BK220)
              (try simp only [hl243003_60] at BK235)
              (try simp only [hl243003_60] at BK242)
              (try simp only [hl243003_60] at BK250)
              (try simp only [hl243003_60] at HO_236003)
              (try simp only [hl243003_60] at HO_251003)
              cases kq with
              | zero => exact absurd HA.out (by simp [laws_FnExactTableCap.j1])
              | succ kj60 =>
                have H := HA.out
                clear HA
                simp only [laws_FnExactTableCap.j1] at H
                by_cases c90 : x65_60 = true
                · subst c90
                  have H1 : (some false) = some r := by rw [if_pos rfl] at H; exact H
                  clear H
                  have H := H1
                  clear H1
                  obtain rfl := Option.some.inj H
                  go_wp2
                  go_ret
                  exact ⟨by first | rfl | (simp [errW_none, errW_some] <;> rfl) | (simp [*, errW_none, errW_some] <;> rfl), by repeat (first | (with_reducible first | exact HB.out | apply below_alloc | apply pw_below_drewN | apply below_drew1 | refine below_set ?_ GE220.out | refine below_set ?_ GE235.out | refine below_set ?_ GE242.out | refine below_set ?_ GE250.out) | exact HB.out)⟩
                · replace c90 := Bool.eq_false_iff.mpr c90
                  subst c90
                  have H1 : ((laws_markTable.f kj60 t243 t244 t245 t246 1).bind fun bt262 => ((laws_heldTable.f kj60 t243 t244 t245 bt262.2 1).bind fun t264 => (if t264 < 0 then (some false) else (if t264 = bt262.1 then ((laws_toTable.f kj60 a0_0 a0_1 a0_2 l0_3).bind fun bt265 => ((impl_TableCap.f kj60 bt265.1 bt265.2.1 bt265.2.2.1 bt265.2.2.2 a1).bind fun bt271 => ((laws_eqTable.f kj60 bt271.1 bt271.2.1 bt271.2.2.1 bt271.2.2.2.1 t228 t229 t230 t231).bind fun t279 => (if t279 = true then (laws_FnExactTableCap.j2 kj60 bt262.1 (bt271.2.2.2.2 != t234) t243 t244 t245 bt262.2) else (laws_FnExactTableCap.j2 kj60 bt262.1 true t243 t244 t245 bt262.2))))) else (some false))))) = some r := by rw [if_neg (show ¬ (false = true) by decide)] at H; exact H
                  clear H
                  have H := H1
                  clear H1
                  replace H := Option.bind_eq_some_iff.mp H
                  obtain ⟨⟨t262, t263⟩, A910, H⟩ := H
                  replace H : ((laws_heldTable.f kj60 t243 t244 t245 t263 1).bind fun t264 => (if t264 < 0 then (some false) else (if t264 = t262 then ((laws_toTable.f kj60 a0_0 a0_1 a0_2 l0_3).bind fun bt265 => ((impl_TableCap.f kj60 bt265.1 bt265.2.1 bt265.2.2.1 bt265.2.2.2 a1).bind fun bt271 => ((laws_eqTable.f kj60 bt271.1 bt271.2.1 bt271.2.2.1 bt271.2.2.2.1 t228 t229 t230 t231).bind fun t279 => (if t279 = true then (laws_FnExactTableCap.j2 kj60 t262 (bt271.2.2.2.2 != t234) t243 t244 t245 t263) else (laws_FnExactTableCap.j2 kj60 t262 true t243 t244 t245 t263))))) else (some false)))) = some r := H
                  have A91 := Aside0.mk A910
                  clear A910
                  replace H := Option.bind_eq_some_iff.mp H
                  obtain ⟨t264, A920, H⟩ := H
                  replace H : (if t264 < 0 then (some false) else (if t264 = t262 then ((laws_toTable.f kj60 a0_0 a0_1 a0_2 l0_3).bind fun bt265 => ((impl_TableCap.f kj60 bt265.1 bt265.2.1 bt265.2.2.1 bt265.2.2.2 a1).bind fun bt271 => ((laws_eqTable.f kj60 bt271.1 bt271.2.1 bt271.2.2.1 bt271.2.2.2.1 t228 t229 t230 t231).bind fun t279 => (if t279 = true then (laws_FnExactTableCap.j2 kj60 t262 (bt271.2.2.2.2 != t234) t243 t244 t245 t263) else (laws_FnExactTableCap.j2 kj60 t262 true t243 t244 t245 t263))))) else (some false))) = some r := H
                  have A92 := Aside0.mk A920
                  clear A920
                  by_cases c93 : t264 < 0
                  · rw [if_pos c93] at H
                    have c93b0 : decide (t264 < 0) = true := decide_eq_true c93
                    clear c93
                    obtain rfl := Option.some.inj H
                    have hnb94 := NB250_220.out
                    have hnc94 := NB220_250.out
                    have hnb95 := NB250_235.out
                    have hnc95 := NB235_250.out
                    have hnb96 := NB250_242.out
                    have hnc96 := NB242_250.out
                    have hcz97_0 : wc.cell? ⟨gb250, 0, none⟩ = some (.int .i64 t243) := (blk_cell BK250.out 0).trans rfl
                    have hcz97_1 : wc.cell? ⟨gb250, 1, none⟩ = some (.int .i64 t244) := (blk_cell BK250.out 1).trans rfl
                    have hcz97_2 : wc.cell? ⟨gb250, 2, none⟩ = some (.int .i64 t245) := (blk_cell BK250.out 2).trans rfl
                    have hcz97_3 : wc.cell? ⟨gb250, 3, none⟩ = some (.slice Ao37 t246.length co37) := (blk_cell BK250.out 3).trans rfl
                    have hfz97_0 := blk_frozen BK250.out 0
                    have hfz97_1 := blk_frozen BK250.out 1
                    have hfz97_2 := blk_frozen BK250.out 2
                    have hfz97_3 := blk_frozen BK250.out 3
                    go_wp2_with (first | ((with_reducible refine gate_callee (f := 47) rfl ?_); refine goesL_ (some 68) rfl rfl Try.func47 (by kernel_rfl) rfl #[.agg #[.int .i64 t243, .int .i64 t244, .int .i64 t245, .slice Ao37 t246.length co37], .int .i64 1] rfl (by (try simp only [List.map_toArray, List.map_cons, List.map_nil]); first | done | rfl | (simp only [List.length_drop, List.length_take]; rfl)) ?_; (with_reducible refine (laws_markTable.calls kj60 t243 t244 t245 (fun k_ => some k_ = (.slice Ao37 t246.length co37 : Value).ownBlock) (.slice Ao37 t246.length co37) t246 1 t262 t263 w _ ?side1 ?side2 A91.out).mono ?_); (case side1 => repeat (first | (with_reducible first | exact HB.out | apply below_alloc | apply pw_below_drewN | apply below_drew1 | refine below_set ?_ GE220.out | refine below_set ?_ GE235.out | refine below_set ?_ GE242.out | refine below_set ?_ GE250.out) | exact HB.out)); (case side2 => exact Kd.R_tight rfl HO_251003.out); rintro e w98 ⟨rfl, hy0, hb, hkp⟩; refine ⟨_, rfl, ?_⟩; have n0_ := Aside0.mk (Kd.R_mono (ok' := fun k_ => some k_ ≠ (.slice Ao30 t260.length co30 : Value).ownBlock ∧ some k_ ≠ (.slice Ao37 t246.length co37 : Value).ownBlock) (Kd.R_keptB (HO_236003.out) hkp (fun k_ hk_ hs_ => (hk_.2) hs_)) (fun k_ hk_ => ⟨hk_.1.1, hk_.1.2⟩)); have n1_ := Aside0.mk (Kd.R_mono (ok' := fun k_ => some k_ ≠ (.slice Ao23 t231.length co23 : Value).ownBlock ∧ some k_ ≠ (.slice Ao37 t246.length co37 : Value).ownBlock) (Kd.R_keptB (HO_243003.out) hkp (fun k_ hk_ hs_ => (hk_.2) hs_)) (fun k_ hk_ => ⟨hk_.1.1, hk_.1.2⟩)); have n2_ := Aside0.mk (Kd.R_reok rfl hy0 (fun k_ e_ => HO_251003.out.1 k_ e_)); have n3_ := Aside0.mk (blk_kept (by (with_reducible repeat (first | refine blk_drewN ?_ _ | refine blk_drew ?_ | refine blk_alloc ?_ _)); exact BK220.out) hkp (fun hs_ => (fun e_ => (Kd.R_ne HO_251003.out BK220.out (by decide)) e_) hs_)); have n4_ := Aside0.mk (blk_kept (by (with_reducible repeat (first | refine blk_drewN ?_ _ | refine blk_drew ?_ | refine blk_alloc ?_ _)); exact BK235.out) hkp (fun hs_ => (fun e_ => (Kd.R_ne HO_251003.out BK235.out (by decide)) e_) hs_)); have n5_ := Aside0.mk (blk_kept (by (with_reducible repeat (first | refine blk_drewN ?_ _ | refine blk_drew ?_ | refine blk_alloc ?_ _)); exact BK242.out) hkp (fun hs_ => (fun e_ => (Kd.R_ne HO_251003.out BK242.out (by decide)) e_) hs_)); have n6_ := Aside0.mk (blk_kept (by (with_reducible repeat (first | refine blk_drewN ?_ _ | refine blk_drew ?_ | refine blk_alloc ?_ _)); exact BK250.out) hkp (fun hs_ => (fun e_ => (Kd.R_ne HO_251003.out BK250.out (by decide)) e_) hs_)); have n7_ := Aside0.mk (hb); clear HO_236003; clear HO_243003; clear HO_251003; clear BK220; clear BK235; clear BK242; clear BK250; clear HB; have HO_236003 := n0_; have HO_243003 := n1_; have HO_251003 := n2_; have BK220 := n3_; have BK235 := n4_; have BK242 := n5_; have BK250 := n6_; have HB := n7_; clear n0_ n1_ n2_ n3_ n4_ n5_ n6_ n7_; (try clear hb); (try clear hkp); (try clear hy0); have hcz99_0 : w98.cell? ⟨gb250, 0, none⟩ = some (.int .i64 t243) := (blk_cell BK250.out 0).trans rfl; have hcz99_1 : w98.cell? ⟨gb250, 1, none⟩ = some (.int .i64 t244) := (blk_cell BK250.out 1).trans rfl; have hcz99_2 : w98.cell? ⟨gb250, 2, none⟩ = some (.int .i64 t245) := (blk_cell BK250.out 2).trans rfl; have hcz99_3 : w98.cell? ⟨gb250, 3, none⟩ = some (.slice Ao37 t246.length co37) := (blk_cell BK250.out 3).trans rfl; have hfz99_0 := blk_frozen BK250.out 0; have hfz99_1 := blk_frozen BK250.out 1; have hfz99_2 := blk_frozen BK250.out 2; have hfz99_3 := blk_frozen BK250.out 3) | ((with_reducible refine gate_callee (f := 48) rfl ?_); refine goesL_ (some 71) rfl rfl Try.func48 (by kernel_rfl) rfl #[.agg #[.int .i64 t243, .int .i64 t244, .int .i64 t245, .slice Ao37 t263.length co37], .int .i64 1] rfl (by (try simp only [List.map_toArray, List.map_cons, List.map_nil]); first | done | (rw [show t263.length = t246.length from (Kd.R_reads' HO_251003.out).1.symm] <;> rfl) | rfl | (simp only [List.length_drop, List.length_take]; rfl)) ?_; (with_reducible refine (laws_heldTable.calls kj60 t243 t244 t245 _ _ t263 1 t264 _ ?side1 ?side2 A92.out).mono ?_); (case side1 => repeat (first | exact (Kd.R_reads' HO_251003.out).2.2 | (with_reducible refine Kd.C_alloc ?_ _) | (with_reducible refine Kd.C_drewN ?_ _) | (with_reducible refine Kd.C_drew ?_))); (case side2 => rw [show t263.length = t246.length from (Kd.R_reads' HO_251003.out).1.symm]; exact (Kd.R_reads' HO_251003.out).2.1); rintro e w100 ⟨rfl, hb⟩; refine ⟨_, rfl, ?_⟩; have n0_ := Aside0.mk (Kd.R_below (by (with_reducible repeat (first | apply Kd.R_alloc | apply Kd.R_drewN | apply Kd.R_drew)); exact HO_236003.out) hb); have n1_ := Aside0.mk (Kd.R_below (by (with_reducible repeat (first | apply Kd.R_alloc | apply Kd.R_drewN | apply Kd.R_drew)); exact HO_243003.out) hb); have n2_ := Aside0.mk (Kd.R_below (by (with_reducible repeat (first | apply Kd.R_alloc | apply Kd.R_drewN | apply Kd.R_drew)); exact HO_251003.out) hb); have n3_ := Aside0.mk (blk_below (g := gb220) (o := .cells #[.int .i64 a0_0, .int .i64 a0_1, .int .i64 a0_2, .slice A0_3 l0_3.length c0_3] 64 (0, 0)) (by (with_reducible repeat (first | refine blk_drewN ?_ _ | refine blk_drew ?_ | refine blk_alloc ?_ _)); exact BK220.out) hb); have n4_ := Aside0.mk (blk_below (g := gb235) (o := .cells #[.int .i64 t228, .int .i64 t229, .int .i64 t230, .slice Ao23 t231.length co23] 69 (0, 0)) (by (with_reducible repeat (first | refine blk_drewN ?_ _ | refine blk_drew ?_ | refine blk_alloc ?_ _)); exact BK235.out) hb); have n5_ := Aside0.mk (blk_below (g := gb242) (o := .cells #[.int .i64 t236, .int .i64 t237, .int .i64 t238, .slice Ao30 t260.length co30] 69 (0, 0)) (by (with_reducible repeat (first | refine blk_drewN ?_ _ | refine blk_drew ?_ | refine blk_alloc ?_ _)); exact BK242.out) hb); have n6_ := Aside0.mk (blk_below (g := gb250) (o := .cells #[.int .i64 t243, .int .i64 t244, .int .i64 t245, .slice Ao37 t246.length co37] 69 (0, 0)) (by (with_reducible repeat (first | refine blk_drewN ?_ _ | refine blk_drew ?_ | refine blk_alloc ?_ _)); exact BK250.out) hb); have n7_ := Aside0.mk (below_step (by repeat (first | (with_reducible first | exact HB.out | apply below_alloc | apply pw_below_drewN | apply below_drew1 | refine below_set ?_ GE220.out | refine below_set ?_ GE235.out | refine below_set ?_ GE242.out | refine below_set ?_ GE250.out) | exact HB.out)) hb); clear HO_236003; clear HO_243003; clear HO_251003; clear BK220; clear BK235; clear BK242; clear BK250; clear HB; have HO_236003 := n0_; have HO_243003 := n1_; have HO_251003 := n2_; have BK220 := n3_; have BK235 := n4_; have BK242 := n5_; have BK250 := n6_; have HB := n7_; clear n0_ n1_ n2_ n3_ n4_ n5_ n6_ n7_; (try clear hb); (try clear hb2); (try clear hk); (try clear hi)))
                    go_ret
                    exact ⟨by first | rfl | (simp [errW_none, errW_some] <;> rfl) | (simp [*, errW_none, errW_some] <;> rfl), by repeat (first | (with_reducible first | exact HB.out | apply below_alloc | apply pw_below_drewN | apply below_drew1 | refine below_set ?_ GE220.out | refine below_set ?_ GE235.out | refine below_set ?_ GE242.out | refine below_set ?_ GE250.out) | exact HB.out)⟩
                  · rw [if_neg c93] at H
                    have c93b0 : decide (t264 < 0) = false := decide_eq_false c93
                    clear c93
                    by_cases c101 : t264 = t262
                    · rw [if_pos c101] at H
                      have c101b0 : (t264 == t262) = true := beq_iff_eq.mpr c101
                      have c101b1 : (t264 != t262) = false := bne_eq_false_iff_eq.mpr c101
                      clear c101
                      replace H := Option.bind_eq_some_iff.mp H
                      obtain ⟨⟨t265, t266, t267, t268⟩, A1020, H⟩ := H
                      replace H : ((impl_TableCap.f kj60 t265 t266 t267 t268 a1).bind fun bt271 => ((laws_eqTable.f kj60 bt271.1 bt271.2.1 bt271.2.2.1 bt271.2.2.2.1 t228 t229 t230 t231).bind fun t279 => (if t279 = true then (laws_FnExactTableCap.j2 kj60 t262 (bt271.2.2.2.2 != t234) t243 t244 t245 t263) else (laws_FnExactTableCap.j2 kj60 t262 true t243 t244 t245 t263)))) = some r := H
                      have A102 := Aside0.mk A1020
                      clear A1020
                      replace H := Option.bind_eq_some_iff.mp H
                      obtain ⟨⟨t271, t272, t273, t274, t277⟩, A1030, H⟩ := H
                      replace H : ((laws_eqTable.f kj60 t271 t272 t273 t274 t228 t229 t230 t231).bind fun t279 => (if t279 = true then (laws_FnExactTableCap.j2 kj60 t262 (t277 != t234) t243 t244 t245 t263) else (laws_FnExactTableCap.j2 kj60 t262 true t243 t244 t245 t263))) = some r := H
                      have A103 := Aside0.mk A1030
                      clear A1030
                      have HC104 := Aside0.mk H
                      clear H
                      have hnb105 := NB250_220.out
                      have hnc105 := NB220_250.out
                      have hnb106 := NB250_235.out
                      have hnc106 := NB235_250.out
                      have hnb107 := NB250_242.out
                      have hnc107 := NB242_250.out
                      have hcz108_0 : wc.cell? ⟨gb250, 0, none⟩ = some (.int .i64 t243) := (blk_cell BK250.out 0).trans rfl
                      have hcz108_1 : wc.cell? ⟨gb250, 1, none⟩ = some (.int .i64 t244) := (blk_cell BK250.out 1).trans rfl
                      have hcz108_2 : wc.cell? ⟨gb250, 2, none⟩ = some (.int .i64 t245) := (blk_cell BK250.out 2).trans rfl
                      have hcz108_3 : wc.cell? ⟨gb250, 3, none⟩ = some (.slice Ao37 t246.length co37) := (blk_cell BK250.out 3).trans rfl
                      have hfz108_0 := blk_frozen BK250.out 0
                      have hfz108_1 := blk_frozen BK250.out 1
                      have hfz108_2 := blk_frozen BK250.out 2
                      have hfz108_3 := blk_frozen BK250.out 3
                      go_upto_region 25 with (first | ((with_reducible refine gate_callee (f := 47) rfl ?_); refine goesL_ (some 68) rfl rfl Try.func47 (by kernel_rfl) rfl #[.agg #[.int .i64 t243, .int .i64 t244, .int .i64 t245, .slice Ao37 t246.length co37], .int .i64 1] rfl (by (try simp only [List.map_toArray, List.map_cons, List.map_nil]); first | done | rfl | (simp only [List.length_drop, List.length_take]; rfl)) ?_; (with_reducible refine (laws_markTable.calls kj60 t243 t244 t245 (fun k_ => some k_ = (.slice Ao37 t246.length co37 : Value).ownBlock) (.slice Ao37 t246.length co37) t246 1 t262 t263 w _ ?side1 ?side2 A91.out).mono ?_); (case side1 => repeat (first | (with_reducible first | exact HB.out | apply below_alloc | apply pw_below_drewN | apply below_drew1 | refine below_set ?_ GE220.out | refine below_set ?_ GE235.out | refine below_set ?_ GE242.out | refine below_set ?_ GE250.out) | exact HB.out)); (case side2 => exact Kd.R_tight rfl HO_251003.out); rintro e w109 ⟨rfl, hy0, hb, hkp⟩; refine ⟨_, rfl, ?_⟩; have n0_ := Aside0.mk (Kd.R_mono (ok' := fun k_ => some k_ ≠ (.slice Ao30 t260.length co30 : Value).ownBlock ∧ some k_ ≠ (.slice Ao37 t246.length co37 : Value).ownBlock) (Kd.R_keptB (HO_236003.out) hkp (fun k_ hk_ hs_ => (hk_.2) hs_)) (fun k_ hk_ => ⟨hk_.1.1, hk_.1.2⟩)); have n1_ := Aside0.mk (Kd.R_mono (ok' := fun k_ => some k_ ≠ (.slice Ao23 t231.length co23 : Value).ownBlock ∧ some k_ ≠ (.slice Ao37 t246.length co37 : Value).ownBlock) (Kd.R_keptB (HO_243003.out) hkp (fun k_ hk_ hs_ => (hk_.2) hs_)) (fun k_ hk_ => ⟨hk_.1.1, hk_.1.2⟩)); have n2_ := Aside0.mk (Kd.R_reok rfl hy0 (fun k_ e_ => HO_251003.out.1 k_ e_)); have n3_ := Aside0.mk (blk_kept (by (with_reducible repeat (first | refine blk_drewN ?_ _ | refine blk_drew ?_ | refine blk_alloc ?_ _)); exact BK220.out) hkp (fun hs_ => (fun e_ => (Kd.R_ne HO_251003.out BK220.out (by decide)) e_) hs_)); have n4_ := Aside0.mk (blk_kept (by (with_reducible repeat (first | refine blk_drewN ?_ _ | refine blk_drew ?_ | refine blk_alloc ?_ _)); exact BK235.out) hkp (fun hs_ => (fun e_ => (Kd.R_ne HO_251003.out BK235.out (by decide)) e_) hs_)); have n5_ := Aside0.mk (blk_kept (by (with_reducible repeat (first | refine blk_drewN ?_ _ | refine blk_drew ?_ | refine blk_alloc ?_ _)); exact BK242.out) hkp (fun hs_ => (fun e_ => (Kd.R_ne HO_251003.out BK242.out (by decide)) e_) hs_)); have n6_ := Aside0.mk (blk_kept (by (with_reducible repeat (first | refine blk_drewN ?_ _ | refine blk_drew ?_ | refine blk_alloc ?_ _)); exact BK250.out) hkp (fun hs_ => (fun e_ => (Kd.R_ne HO_251003.out BK250.out (by decide)) e_) hs_)); have n7_ := Aside0.mk (hb); clear HO_236003; clear HO_243003; clear HO_251003; clear BK220; clear BK235; clear BK242; clear BK250; clear HB; have HO_236003 := n0_; have HO_243003 := n1_; have HO_251003 := n2_; have BK220 := n3_; have BK235 := n4_; have BK242 := n5_; have BK250 := n6_; have HB := n7_; clear n0_ n1_ n2_ n3_ n4_ n5_ n6_ n7_; (try clear hb); (try clear hkp); (try clear hy0); have hcz110_0 : w109.cell? ⟨gb250, 0, none⟩ = some (.int .i64 t243) := (blk_cell BK250.out 0).trans rfl; have hcz110_1 : w109.cell? ⟨gb250, 1, none⟩ = some (.int .i64 t244) := (blk_cell BK250.out 1).trans rfl; have hcz110_2 : w109.cell? ⟨gb250, 2, none⟩ = some (.int .i64 t245) := (blk_cell BK250.out 2).trans rfl; have hcz110_3 : w109.cell? ⟨gb250, 3, none⟩ = some (.slice Ao37 t246.length co37) := (blk_cell BK250.out 3).trans rfl; have hfz110_0 := blk_frozen BK250.out 0; have hfz110_1 := blk_frozen BK250.out 1; have hfz110_2 := blk_frozen BK250.out 2; have hfz110_3 := blk_frozen BK250.out 3) | ((with_reducible refine gate_callee (f := 48) rfl ?_); refine goesL_ (some 71) rfl rfl Try.func48 (by kernel_rfl) rfl #[.agg #[.int .i64 t243, .int .i64 t244, .int .i64 t245, .slice Ao37 t263.length co37], .int .i64 1] rfl (by (try simp only [List.map_toArray, List.map_cons, List.map_nil]); first | done | (rw [show t263.length = t246.length from (Kd.R_reads' HO_251003.out).1.symm] <;> rfl) | rfl | (simp only [List.length_drop, List.length_take]; rfl)) ?_; (with_reducible refine (laws_heldTable.calls kj60 t243 t244 t245 _ _ t263 1 t264 _ ?side1 ?side2 A92.out).mono ?_); (case side1 => repeat (first | exact (Kd.R_reads' HO_251003.out).2.2 | (with_reducible refine Kd.C_alloc ?_ _) | (with_reducible refine Kd.C_drewN ?_ _) | (with_reducible refine Kd.C_drew ?_))); (case side2 => rw [show t263.length = t246.length from (Kd.R_reads' HO_251003.out).1.symm]; exact (Kd.R_reads' HO_251003.out).2.1); rintro e w111 ⟨rfl, hb⟩; refine ⟨_, rfl, ?_⟩; have n0_ := Aside0.mk (Kd.R_below (by (with_reducible repeat (first | apply Kd.R_alloc | apply Kd.R_drewN | apply Kd.R_drew)); exact HO_236003.out) hb); have n1_ := Aside0.mk (Kd.R_below (by (with_reducible repeat (first | apply Kd.R_alloc | apply Kd.R_drewN | apply Kd.R_drew)); exact HO_243003.out) hb); have n2_ := Aside0.mk (Kd.R_below (by (with_reducible repeat (first | apply Kd.R_alloc | apply Kd.R_drewN | apply Kd.R_drew)); exact HO_251003.out) hb); have n3_ := Aside0.mk (blk_below (g := gb220) (o := .cells #[.int .i64 a0_0, .int .i64 a0_1, .int .i64 a0_2, .slice A0_3 l0_3.length c0_3] 64 (0, 0)) (by (with_reducible repeat (first | refine blk_drewN ?_ _ | refine blk_drew ?_ | refine blk_alloc ?_ _)); exact BK220.out) hb); have n4_ := Aside0.mk (blk_below (g := gb235) (o := .cells #[.int .i64 t228, .int .i64 t229, .int .i64 t230, .slice Ao23 t231.length co23] 69 (0, 0)) (by (with_reducible repeat (first | refine blk_drewN ?_ _ | refine blk_drew ?_ | refine blk_alloc ?_ _)); exact BK235.out) hb); have n5_ := Aside0.mk (blk_below (g := gb242) (o := .cells #[.int .i64 t236, .int .i64 t237, .int .i64 t238, .slice Ao30 t260.length co30] 69 (0, 0)) (by (with_reducible repeat (first | refine blk_drewN ?_ _ | refine blk_drew ?_ | refine blk_alloc ?_ _)); exact BK242.out) hb); have n6_ := Aside0.mk (blk_below (g := gb250) (o := .cells #[.int .i64 t243, .int .i64 t244, .int .i64 t245, .slice Ao37 t246.length co37] 69 (0, 0)) (by (with_reducible repeat (first | refine blk_drewN ?_ _ | refine blk_drew ?_ | refine blk_alloc ?_ _)); exact BK250.out) hb); have n7_ := Aside0.mk (below_step (by repeat (first | (with_reducible first | exact HB.out | apply below_alloc | apply pw_below_drewN | apply below_drew1 | refine below_set ?_ GE220.out | refine below_set ?_ GE235.out | refine below_set ?_ GE242.out | refine below_set ?_ GE250.out) | exact HB.out)) hb); clear HO_236003; clear HO_243003; clear HO_251003; clear BK220; clear BK235; clear BK242; clear BK250; clear HB; have HO_236003 := n0_; have HO_243003 := n1_; have HO_251003 := n2_; have BK220 := n3_; have BK235 := n4_; have BK242 := n5_; have BK250 := n6_; have HB := n7_; clear n0_ n1_ n2_ n3_ n4_ n5_ n6_ n7_; (try clear hb); (try clear hb2); (try clear hk); (try clear hi); have hnb112 := NB220_235.out; have hnc112 := NB235_220.out; have hnb113 := NB220_242.out; have hnc113 := NB242_220.out; have hcz114_0 : w111.cell? ⟨gb220, 0, none⟩ = some (.int .i64 a0_0) := (blk_cell BK220.out 0).trans rfl; have hcz114_1 : w111.cell? ⟨gb220, 1, none⟩ = some (.int .i64 a0_1) := (blk_cell BK220.out 1).trans rfl; have hcz114_2 : w111.cell? ⟨gb220, 2, none⟩ = some (.int .i64 a0_2) := (blk_cell BK220.out 2).trans rfl; have hcz114_3 : w111.cell? ⟨gb220, 3, none⟩ = some (.slice A0_3 l0_3.length c0_3) := (blk_cell BK220.out 3).trans rfl; have hfz114_0 := blk_frozen BK220.out 0; have hfz114_1 := blk_frozen BK220.out 1; have hfz114_2 := blk_frozen BK220.out 2; have hfz114_3 := blk_frozen BK220.out 3) | ((with_reducible refine gate_callee (f := 40) rfl ?_); refine goesL_ (some 79) rfl rfl Try.func40 (by kernel_rfl) rfl #[.agg #[.int .i64 a0_0, .int .i64 a0_1, .int .i64 a0_2, .slice A0_3 l0_3.length c0_3]] rfl (by (try simp only [List.map_toArray, List.map_cons, List.map_nil]); first | done | rfl | (simp only [List.length_drop, List.length_take]; rfl)) ?_; (with_reducible refine (laws_toTable.calls kj60 a0_0 a0_1 a0_2 _ _ l0_3 t265 t266 t267 t268 _ ?side1 ?side2 A102.out).mono ?_); (case side1 => repeat (first | exact (Kd.C_below HR0_3.out HB.out) | (with_reducible refine Kd.C_alloc ?_ _) | (with_reducible refine Kd.C_drewN ?_ _) | (with_reducible refine Kd.C_drew ?_))); (case side2 => exact HC0_3.out); rintro e w115 ⟨v269, rfl, ho0, hb⟩; refine ⟨_, rfl, ?_⟩; have n0_ := Aside0.mk (Kd.R_elder' (by (with_reducible repeat (first | apply Kd.R_alloc | apply Kd.R_drewN | apply Kd.R_drew)); exact HO_236003.out) (Kd.R_base ho0) hb); have n1_ := Aside0.mk (Kd.R_elder' (by (with_reducible repeat (first | apply Kd.R_alloc | apply Kd.R_drewN | apply Kd.R_drew)); exact HO_243003.out) (Kd.R_base ho0) hb); have n2_ := Aside0.mk (Kd.R_elder' (by (with_reducible repeat (first | apply Kd.R_alloc | apply Kd.R_drewN | apply Kd.R_drew)); exact HO_251003.out) (Kd.R_base ho0) hb); have n3_ := Aside0.mk (Kd.R_lower (Kd.R_new' (Kd.R_new' (Kd.R_new' ho0 (Kd.R_lt (by (with_reducible repeat (first | apply Kd.R_alloc | apply Kd.R_drewN | apply Kd.R_drew)); exact HO_236003.out))) (Kd.R_lt (by (with_reducible repeat (first | apply Kd.R_alloc | apply Kd.R_drewN | apply Kd.R_drew)); exact HO_243003.out))) (Kd.R_lt (by (with_reducible repeat (first | apply Kd.R_alloc | apply Kd.R_drewN | apply Kd.R_drew)); exact HO_251003.out))) (below_size (by repeat (first | (with_reducible first | exact HB.out | apply below_alloc | apply pw_below_drewN | apply below_drew1 | refine below_set ?_ GE220.out | refine below_set ?_ GE235.out | refine below_set ?_ GE242.out | refine below_set ?_ GE250.out) | exact HB.out)))); have n4_ := Aside0.mk (blk_below (g := gb220) (o := .cells #[.int .i64 a0_0, .int .i64 a0_1, .int .i64 a0_2, .slice A0_3 l0_3.length c0_3] 64 (0, 0)) (by (with_reducible repeat (first | refine blk_drewN ?_ _ | refine blk_drew ?_ | refine blk_alloc ?_ _)); exact BK220.out) hb); have n5_ := Aside0.mk (blk_below (g := gb235) (o := .cells #[.int .i64 t228, .int .i64 t229, .int .i64 t230, .slice Ao23 t231.length co23] 69 (0, 0)) (by (with_reducible repeat (first | refine blk_drewN ?_ _ | refine blk_drew ?_ | refine blk_alloc ?_ _)); exact BK235.out) hb); have n6_ := Aside0.mk (blk_below (g := gb242) (o := .cells #[.int .i64 t236, .int .i64 t237, .int .i64 t238, .slice Ao30 t260.length co30] 69 (0, 0)) (by (with_reducible repeat (first | refine blk_drewN ?_ _ | refine blk_drew ?_ | refine blk_alloc ?_ _)); exact BK242.out) hb); have n7_ := Aside0.mk (blk_below (g := gb250) (o := .cells #[.int .i64 t243, .int .i64 t244, .int .i64 t245, .slice Ao37 t246.length co37] 69 (0, 0)) (by (with_reducible repeat (first | refine blk_drewN ?_ _ | refine blk_drew ?_ | refine blk_alloc ?_ _)); exact BK250.out) hb); have n8_ := Aside0.mk (below_step (by repeat (first | (with_reducible first | exact HB.out | apply below_alloc | apply pw_below_drewN | apply below_drew1 | refine below_set ?_ GE220.out | refine below_set ?_ GE235.out | refine below_set ?_ GE242.out | refine below_set ?_ GE250.out) | exact HB.out)) hb); clear HO_236003; clear HO_243003; clear HO_251003; clear BK220; clear BK235; clear BK242; clear BK250; clear HB; have HO_236003 := n0_; have HO_243003 := n1_; have HO_251003 := n2_; have HO270 := n3_; have BK220 := n4_; have BK235 := n5_; have BK242 := n6_; have BK250 := n7_; have HB := n8_; clear n0_ n1_ n2_ n3_ n4_ n5_ n6_ n7_ n8_; (try clear hb); (try clear hb2); (try clear hk); (try clear hi); (try clear ho0); obtain ⟨Ao116, co116, eo116⟩ := Kd.R_slice HO270.out; subst eo116) | ((with_reducible refine gate_callee (f := 46) rfl ?_); refine goesL_ (some 81) rfl rfl Try.func46 (by kernel_rfl) rfl #[.agg #[.int .i64 t265, .int .i64 t266, .int .i64 t267, .slice Ao116 t268.length co116], .int .i64 a1] rfl (by (try simp only [List.map_toArray, List.map_cons, List.map_nil]); first | done | rfl | (simp only [List.length_drop, List.length_take]; rfl)) ?_; (with_reducible refine (impl_TableCap.calls kj60 t265 t266 t267 _ _ t268 a1 t271 t272 t273 t274 t277 _ ?side1 ?side2 A103.out).mono ?_); (case side1 => repeat (first | exact (Kd.R_reads' HO270.out).2.2 | (with_reducible refine Kd.C_alloc ?_ _) | (with_reducible refine Kd.C_drewN ?_ _) | (with_reducible refine Kd.C_drew ?_))); (case side2 => exact (Kd.R_reads' HO270.out).2.1); rintro e w117 ⟨v275, rfl, ho0, hb⟩; refine ⟨_, rfl, ?_⟩; have n0_ := Aside0.mk (Kd.R_elder' (by (with_reducible repeat (first | apply Kd.R_alloc | apply Kd.R_drewN | apply Kd.R_drew)); exact HO_236003.out) (Kd.R_base ho0) hb); have n1_ := Aside0.mk (Kd.R_elder' (by (with_reducible repeat (first | apply Kd.R_alloc | apply Kd.R_drewN | apply Kd.R_drew)); exact HO_243003.out) (Kd.R_base ho0) hb); have n2_ := Aside0.mk (Kd.R_elder' (by (with_reducible repeat (first | apply Kd.R_alloc | apply Kd.R_drewN | apply Kd.R_drew)); exact HO_251003.out) (Kd.R_base ho0) hb); have n3_ := Aside0.mk (Kd.R_elder' (by (with_reducible repeat (first | apply Kd.R_alloc | apply Kd.R_drewN | apply Kd.R_drew)); exact HO270.out) (Kd.R_base ho0) hb); have n4_ := Aside0.mk (Kd.R_lower (Kd.R_new' (Kd.R_new' (Kd.R_new' (Kd.R_new' ho0 (Kd.R_lt (by (with_reducible repeat (first | apply Kd.R_alloc | apply Kd.R_drewN | apply Kd.R_drew)); exact HO_236003.out))) (Kd.R_lt (by (with_reducible repeat (first | apply Kd.R_alloc | apply Kd.R_drewN | apply Kd.R_drew)); exact HO_243003.out))) (Kd.R_lt (by (with_reducible repeat (first | apply Kd.R_alloc | apply Kd.R_drewN | apply Kd.R_drew)); exact HO_251003.out))) (Kd.R_lt (by (with_reducible repeat (first | apply Kd.R_alloc | apply Kd.R_drewN | apply Kd.R_drew)); exact HO270.out))) (below_size (by repeat (first | (with_reducible first | exact HB.out | apply below_alloc | apply pw_below_drewN | apply below_drew1 | refine below_set ?_ GE220.out | refine below_set ?_ GE235.out | refine below_set ?_ GE242.out | refine below_set ?_ GE250.out) | exact HB.out)))); have n5_ := Aside0.mk (blk_below (g := gb220) (o := .cells #[.int .i64 a0_0, .int .i64 a0_1, .int .i64 a0_2, .slice A0_3 l0_3.length c0_3] 64 (0, 0)) (by (with_reducible repeat (first | refine blk_drewN ?_ _ | refine blk_drew ?_ | refine blk_alloc ?_ _)); exact BK220.out) hb); have n6_ := Aside0.mk (blk_below (g := gb235) (o := .cells #[.int .i64 t228, .int .i64 t229, .int .i64 t230, .slice Ao23 t231.length co23] 69 (0, 0)) (by (with_reducible repeat (first | refine blk_drewN ?_ _ | refine blk_drew ?_ | refine blk_alloc ?_ _)); exact BK235.out) hb); have n7_ := Aside0.mk (blk_below (g := gb242) (o := .cells #[.int .i64 t236, .int .i64 t237, .int .i64 t238, .slice Ao30 t260.length co30] 69 (0, 0)) (by (with_reducible repeat (first | refine blk_drewN ?_ _ | refine blk_drew ?_ | refine blk_alloc ?_ _)); exact BK242.out) hb); have n8_ := Aside0.mk (blk_below (g := gb250) (o := .cells #[.int .i64 t243, .int .i64 t244, .int .i64 t245, .slice Ao37 t246.length co37] 69 (0, 0)) (by (with_reducible repeat (first | refine blk_drewN ?_ _ | refine blk_drew ?_ | refine blk_alloc ?_ _)); exact BK250.out) hb); have n9_ := Aside0.mk (below_step (by repeat (first | (with_reducible first | exact HB.out | apply below_alloc | apply pw_below_drewN | apply below_drew1 | refine below_set ?_ GE220.out | refine below_set ?_ GE235.out | refine below_set ?_ GE242.out | refine below_set ?_ GE250.out) | exact HB.out)) hb); clear HO_236003; clear HO_243003; clear HO_251003; clear HO270; clear BK220; clear BK235; clear BK242; clear BK250; clear HB; have HO_236003 := n0_; have HO_243003 := n1_; have HO_251003 := n2_; have HO270 := n3_; have HO276 := n4_; have BK220 := n5_; have BK235 := n6_; have BK242 := n7_; have BK250 := n8_; have HB := n9_; clear n0_ n1_ n2_ n3_ n4_ n5_ n6_ n7_ n8_ n9_; (try clear hb); (try clear hb2); (try clear hk); (try clear hi); (try clear ho0)) | ((with_reducible refine gate_dst (N := 14) rfl ?_); refine box_event ?hg (N := 14) ?hd (cs := #[.int .i64 0, .int .i64 0, .int .i64 0, .slice none 0 0]) (t := 69) ?hr ?_; (case hd => rfl); (case hg => rfl); (case hr => first | (go_simp; done) | (go_simp; rfl)); intro gb278 hg w118 hbox hb; have n0_ := Aside0.mk (Kd.R_below (by (with_reducible repeat (first | apply Kd.R_alloc | apply Kd.R_drewN | apply Kd.R_drew)); exact HO_236003.out) hb); have n1_ := Aside0.mk (Kd.R_below (by (with_reducible repeat (first | apply Kd.R_alloc | apply Kd.R_drewN | apply Kd.R_drew)); exact HO_243003.out) hb); have n2_ := Aside0.mk (Kd.R_below (by (with_reducible repeat (first | apply Kd.R_alloc | apply Kd.R_drewN | apply Kd.R_drew)); exact HO_251003.out) hb); have n3_ := Aside0.mk (Kd.R_below (by (with_reducible repeat (first | apply Kd.R_alloc | apply Kd.R_drewN | apply Kd.R_drew)); exact HO270.out) hb); have n4_ := Aside0.mk (Kd.R_below (by (with_reducible repeat (first | apply Kd.R_alloc | apply Kd.R_drewN | apply Kd.R_drew)); exact HO276.out) hb); have n5_ := Aside0.mk (blk_below (g := gb220) (o := .cells #[.int .i64 a0_0, .int .i64 a0_1, .int .i64 a0_2, .slice A0_3 l0_3.length c0_3] 64 (0, 0)) (by (with_reducible repeat (first | refine blk_drewN ?_ _ | refine blk_drew ?_ | refine blk_alloc ?_ _)); exact BK220.out) hb); have n6_ := Aside0.mk (blk_below (g := gb235) (o := .cells #[.int .i64 t228, .int .i64 t229, .int .i64 t230, .slice Ao23 t231.length co23] 69 (0, 0)) (by (with_reducible repeat (first | refine blk_drewN ?_ _ | refine blk_drew ?_ | refine blk_alloc ?_ _)); exact BK235.out) hb); have n7_ := Aside0.mk (blk_below (g := gb242) (o := .cells #[.int .i64 t236, .int .i64 t237, .int .i64 t238, .slice Ao30 t260.length co30] 69 (0, 0)) (by (with_reducible repeat (first | refine blk_drewN ?_ _ | refine blk_drew ?_ | refine blk_alloc ?_ _)); exact BK242.out) hb); have n8_ := Aside0.mk (blk_below (g := gb250) (o := .cells #[.int .i64 t243, .int .i64 t244, .int .i64 t245, .slice Ao37 t246.length co37] 69 (0, 0)) (by (with_reducible repeat (first | refine blk_drewN ?_ _ | refine blk_drew ?_ | refine blk_alloc ?_ _)); exact BK250.out) hb); have n9_ := Aside0.mk (below_step (by repeat (first | (with_reducible first | exact HB.out | apply below_alloc | apply pw_below_drewN | apply below_drew1 | refine below_set ?_ GE220.out | refine below_set ?_ GE235.out | refine below_set ?_ GE242.out | refine below_set ?_ GE250.out) | exact HB.out)) hb); have n10_ := Aside0.mk (hbox); have n11_ := Aside0.mk ((by rw [hg]; exact (below_size (by repeat (first | (with_reducible first | exact HB.out | apply below_alloc | apply pw_below_drewN | apply below_drew1 | refine below_set ?_ GE220.out | refine below_set ?_ GE235.out | refine below_set ?_ GE242.out | refine below_set ?_ GE250.out) | exact HB.out))) : w.heap.size ≤ gb278)); have n12_ := Aside0.mk ((by rw [hg]; exact (below_size (by repeat (first | (with_reducible first | exact HB.out | apply below_alloc | apply pw_below_drewN | apply below_drew1 | refine below_set ?_ GE220.out | refine below_set ?_ GE235.out | refine below_set ?_ GE242.out | refine below_set ?_ GE250.out) | exact HB.out))) : w.heap.size ≤ gb278)); have n13_ := Aside0.mk ((by rw [hg]; exact Nat.ne_of_lt (blk_lt (g := gb220) (o := .cells #[.int .i64 a0_0, .int .i64 a0_1, .int .i64 a0_2, .slice A0_3 l0_3.length c0_3] 64 (0, 0)) (by (with_reducible repeat (first | refine blk_drewN ?_ _ | refine blk_drew ?_ | refine blk_alloc ?_ _)); exact BK220.out)) : gb220 ≠ gb278)); have n14_ := Aside0.mk ((by rw [hg]; exact Nat.ne_of_gt (blk_lt (g := gb220) (o := .cells #[.int .i64 a0_0, .int .i64 a0_1, .int .i64 a0_2, .slice A0_3 l0_3.length c0_3] 64 (0, 0)) (by (with_reducible repeat (first | refine blk_drewN ?_ _ | refine blk_drew ?_ | refine blk_alloc ?_ _)); exact BK220.out)) : gb278 ≠ gb220)); have n15_ := Aside0.mk ((by rw [hg]; exact Nat.ne_of_lt (blk_lt (g := gb235) (o := .cells #[.int .i64 t228, .int .i64 t229, .int .i64 t230, .slice Ao23 t231.length co23] 69 (0, 0)) (by (with_reducible repeat (first | refine blk_drewN ?_ _ | refine blk_drew ?_ | refine blk_alloc ?_ _)); exact BK235.out)) : gb235 ≠ gb278)); have n16_ := Aside0.mk ((by rw [hg]; exact Nat.ne_of_gt (blk_lt (g := gb235) (o := .cells #[.int .i64 t228, .int .i64 t229, .int .i64 t230, .slice Ao23 t231.length co23] 69 (0, 0)) (by (with_reducible repeat (first | refine blk_drewN ?_ _ | refine blk_drew ?_ | refine blk_alloc ?_ _)); exact BK235.out)) : gb278 ≠ gb235)); have n17_ := Aside0.mk ((by rw [hg]; exact Nat.ne_of_lt (blk_lt (g := gb242) (o := .cells #[.int .i64 t236, .int .i64 t237, .int .i64 t238, .slice Ao30 t260.length co30] 69 (0, 0)) (by (with_reducible repeat (first | refine blk_drewN ?_ _ | refine blk_drew ?_ | refine blk_alloc ?_ _)); exact BK242.out)) : gb242 ≠ gb278)); have n18_ := Aside0.mk ((by rw [hg]; exact Nat.ne_of_gt (blk_lt (g := gb242) (o := .cells #[.int .i64 t236, .int .i64 t237, .int .i64 t238, .slice Ao30 t260.length co30] 69 (0, 0)) (by (with_reducible repeat (first | refine blk_drewN ?_ _ | refine blk_drew ?_ | refine blk_alloc ?_ _)); exact BK242.out)) : gb278 ≠ gb242)); have n19_ := Aside0.mk ((by rw [hg]; exact Nat.ne_of_lt (blk_lt (g := gb250) (o := .cells #[.int .i64 t243, .int .i64 t244, .int .i64 t245, .slice Ao37 t246.length co37] 69 (0, 0)) (by (with_reducible repeat (first | refine blk_drewN ?_ _ | refine blk_drew ?_ | refine blk_alloc ?_ _)); exact BK250.out)) : gb250 ≠ gb278)); have n20_ := Aside0.mk ((by rw [hg]; exact Nat.ne_of_gt (blk_lt (g := gb250) (o := .cells #[.int .i64 t243, .int .i64 t244, .int .i64 t245, .slice Ao37 t246.length co37] 69 (0, 0)) (by (with_reducible repeat (first | refine blk_drewN ?_ _ | refine blk_drew ?_ | refine blk_alloc ?_ _)); exact BK250.out)) : gb278 ≠ gb250)); clear HO_236003; clear HO_243003; clear HO_251003; clear HO270; clear HO276; clear BK220; clear BK235; clear BK242; clear BK250; clear HB; have HO_236003 := n0_; have HO_243003 := n1_; have HO_251003 := n2_; have HO270 := n3_; have HO276 := n4_; have BK220 := n5_; have BK235 := n6_; have BK242 := n7_; have BK250 := n8_; have HB := n9_; have BK278 := n10_; have GW278 := n11_; have GE278 := n12_; have NB220_278 := n13_; have NB278_220 := n14_; have NB235_278 := n15_; have NB278_235 := n16_; have NB242_278 := n17_; have NB278_242 := n18_; have NB250_278 := n19_; have NB278_250 := n20_; clear n0_ n1_ n2_ n3_ n4_ n5_ n6_ n7_ n8_ n9_ n10_ n11_ n12_ n13_ n14_ n15_ n16_ n17_ n18_ n19_ n20_; clear hb hbox hg; have hnb119 := NB278_220.out; have hnc119 := NB220_278.out; have hnb120 := NB278_235.out; have hnc120 := NB235_278.out; have hnb121 := NB278_242.out; have hnc121 := NB242_278.out; have hnb122 := NB278_250.out; have hnc122 := NB250_278.out; have hcz123_0 : w118.cell? ⟨gb278, 0, none⟩ = some (.int .i64 0) := (blk_cell BK278.out 0).trans rfl; have hcz123_1 : w118.cell? ⟨gb278, 1, none⟩ = some (.int .i64 0) := (blk_cell BK278.out 1).trans rfl; have hcz123_2 : w118.cell? ⟨gb278, 2, none⟩ = some (.int .i64 0) := (blk_cell BK278.out 2).trans rfl; have hcz123_3 : w118.cell? ⟨gb278, 3, none⟩ = some (.slice none 0 0) := (blk_cell BK278.out 3).trans rfl; have hfz123_0 := blk_frozen BK278.out 0; have hfz123_1 := blk_frozen BK278.out 1; have hfz123_2 := blk_frozen BK278.out 2; have hfz123_3 := blk_frozen BK278.out 3; obtain ⟨Ao124, co124, eo124⟩ := Kd.R_slice HO276.out; subst eo124))
                      (try simp only [Act.put, List.setIfInBounds_toArray, List.set_cons_zero, List.set_cons_succ])
                      go_cut [92] (fun v92 wc => ∃ (kq : Nat) (x92_103 : Bool), v92 = .bool x92_103 ∧ Aside0 (laws_FnExactTableCap.j2 kq t262 x92_103 t243 t244 t245 t263 = some r) ∧ Aside0 (kq ≤ kj60) ∧ Aside0 (Kd.R k23 23 wc w.heap.size (fun k_ => some k_ ≠ ((.slice Ao30 t260.length co30) : Value).ownBlock ∧ some k_ ≠ ((.slice Ao37 t246.length co37) : Value).ownBlock ∧ some k_ ≠ ((.slice Ao124 t274.length co124) : Value).ownBlock) (.slice Ao23 t231.length co23) t231) ∧ Aside0 (Kd.R k23 23 wc w.heap.size (fun k_ => some k_ ≠ ((.slice Ao23 t231.length co23) : Value).ownBlock ∧ some k_ ≠ ((.slice Ao37 t246.length co37) : Value).ownBlock ∧ some k_ ≠ ((.slice Ao124 t274.length co124) : Value).ownBlock) (.slice Ao30 t260.length co30) t260) ∧ Aside0 (Kd.R k23 23 wc w.heap.size (fun k_ => some k_ ≠ ((.slice Ao23 t231.length co23) : Value).ownBlock ∧ some k_ ≠ ((.slice Ao30 t260.length co30) : Value).ownBlock ∧ some k_ ≠ ((.slice Ao124 t274.length co124) : Value).ownBlock) (.slice Ao37 t246.length co37) t263) ∧ Aside0 (Kd.R k23 23 wc w.heap.size (fun k_ => some k_ ≠ ((.slice Ao23 t231.length co23) : Value).ownBlock ∧ some k_ ≠ ((.slice Ao30 t260.length co30) : Value).ownBlock ∧ some k_ ≠ ((.slice Ao37 t246.length co37) : Value).ownBlock) (.slice Ao124 t274.length co124) t274) ∧ Aside0 (wc.heap[gb220]? = some (.cells #[.int .i64 a0_0, .int .i64 a0_1, .int .i64 a0_2, (.slice A0_3 l0_3.length c0_3)] 64 (0, 0))) ∧ Aside0 (wc.heap[gb235]? = some (.cells #[.int .i64 t228, .int .i64 t229, .int .i64 t230, (.slice Ao23 t231.length co23)] 69 (0, 0))) ∧ Aside0 (wc.heap[gb242]? = some (.cells #[.int .i64 t236, .int .i64 t237, .int .i64 t238, (.slice Ao30 t260.length co30)] 69 (0, 0))) ∧ Aside0 (wc.heap[gb250]? = some (.cells #[.int .i64 t243, .int .i64 t244, .int .i64 t245, (.slice Ao37 t246.length co37)] 69 (0, 0))) ∧ Aside0 (wc.heap[gb278]? = some (.cells #[.int .i64 t271, .int .i64 t272, .int .i64 t273, (.slice Ao124 t274.length co124)] 69 (0, 0))) ∧ Aside0 (Below w.heap.size w wc))
                      case first =>
                        have H := HC104.out
                        clear HC104
                        replace H := Option.bind_eq_some_iff.mp H
                        obtain ⟨t279, A1250, H⟩ := H
                        replace H : (if t279 = true then (laws_FnExactTableCap.j2 kj60 t262 (t277 != t234) t243 t244 t245 t263) else (laws_FnExactTableCap.j2 kj60 t262 true t243 t244 t245 t263)) = some r := H
                        have A125 := Aside0.mk A1250
                        clear A1250
                        by_cases c126 : t279 = true
                        · subst c126
                          have H1 : (laws_FnExactTableCap.j2 kj60 t262 (t277 != t234) t243 t244 t245 t263) = some r := by rw [if_pos rfl] at H; exact H
                          clear H
                          have H := H1
                          clear H1
                          have H' := Aside0.mk H
                          clear H
                          have hnb127 := NB278_220.out
                          have hnc127 := NB220_278.out
                          have hnb128 := NB278_235.out
                          have hnc128 := NB235_278.out
                          have hnb129 := NB278_242.out
                          have hnc129 := NB242_278.out
                          have hnb130 := NB278_250.out
                          have hnc130 := NB250_278.out
                          have hcz131_0 : w118.cell? ⟨gb278, 0, none⟩ = some (.int .i64 0) := (blk_cell BK278.out 0).trans rfl
                          have hcz131_1 : w118.cell? ⟨gb278, 1, none⟩ = some (.int .i64 0) := (blk_cell BK278.out 1).trans rfl
                          have hcz131_2 : w118.cell? ⟨gb278, 2, none⟩ = some (.int .i64 0) := (blk_cell BK278.out 2).trans rfl
                          have hcz131_3 : w118.cell? ⟨gb278, 3, none⟩ = some (.slice none 0 0) := (blk_cell BK278.out 3).trans rfl
                          have hfz131_0 := blk_frozen BK278.out 0
                          have hfz131_1 := blk_frozen BK278.out 1
                          have hfz131_2 := blk_frozen BK278.out 2
                          have hfz131_3 := blk_frozen BK278.out 3
                          have hnb132 := NB235_220.out
                          have hnc132 := NB220_235.out
                          have hnb133 := NB235_242.out
                          have hnc133 := NB242_235.out
                          have hnb134 := NB235_250.out
                          have hnc134 := NB250_235.out
                          have hcz135_0 : w118.cell? ⟨gb235, 0, none⟩ = some (.int .i64 t228) := (blk_cell BK235.out 0).trans rfl
                          have hcz135_1 : w118.cell? ⟨gb235, 1, none⟩ = some (.int .i64 t229) := (blk_cell BK235.out 1).trans rfl
                          have hcz135_2 : w118.cell? ⟨gb235, 2, none⟩ = some (.int .i64 t230) := (blk_cell BK235.out 2).trans rfl
                          have hcz135_3 : w118.cell? ⟨gb235, 3, none⟩ = some (.slice Ao23 t231.length co23) := (blk_cell BK235.out 3).trans rfl
                          have hfz135_0 := blk_frozen BK235.out 0
                          have hfz135_1 := blk_frozen BK235.out 1
                          have hfz135_2 := blk_frozen BK235.out 2
                          have hfz135_3 := blk_frozen BK235.out 3
                          go_wp2_with (first | ((with_reducible refine gate_callee (f := 42) rfl ?_); refine goesL_ (some 86) rfl rfl Try.func42 (by kernel_rfl) rfl #[.agg #[.int .i64 t271, .int .i64 t272, .int .i64 t273, .slice Ao124 t274.length co124], .agg #[.int .i64 t228, .int .i64 t229, .int .i64 t230, .slice Ao23 t231.length co23]] rfl (by (try simp only [List.map_toArray, List.map_cons, List.map_nil]); first | done | rfl | (simp only [List.length_drop, List.length_take]; rfl)) ?_; (with_reducible refine (laws_eqTable.calls kj60 t271 t272 t273 _ _ t274 t228 t229 t230 _ _ t231 true _ ?side1 ?side2 ?side3 ?side4 A125.out).mono ?_); (case side1 => refine (Kd.R_reads' (e := 23) (base := w.heap.size) (ok := fun k_ => ((((True ∧ some k_ ≠ (.slice Ao23 t231.length co23 : Value).ownBlock) ∧ some k_ ≠ (.slice Ao30 t260.length co30 : Value).ownBlock) ∧ some k_ ≠ (.slice Ao37 t246.length co37 : Value).ownBlock) ∧ some k_ ≠ (.slice Ao116 t268.length co116 : Value).ownBlock)) (n := t274.length) (c := co124) ?_).2.2; exact (by (with_reducible repeat (first | apply Kd.R_alloc | apply Kd.R_drewN | apply Kd.R_drew)); exact (Kd.R_mono (Kd.R_far (p := ⟨gb278, 3, none⟩) (Kd.R_far (p := ⟨gb278, 2, none⟩) (Kd.R_far (p := ⟨gb278, 1, none⟩) (Kd.R_far (p := ⟨gb278, 0, none⟩) (Kd.R_types HO276.out BK278.out (by decide)) (fun _ hk => hk.2) (.int .i64 t271)) (fun _ hk => hk.2) (.int .i64 t272)) (fun _ hk => hk.2) (.int .i64 t273)) (fun _ hk => hk.2) (.slice Ao124 t274.length co124)) (fun _ h_ => h_.1)))); (case side2 => exact (Kd.R_reads' HO276.out).2.1); (case side3 => refine (Kd.R_reads' (e := 23) (base := w.heap.size) (ok := fun k_ => (((some k_ ≠ (.slice Ao30 t260.length co30 : Value).ownBlock ∧ some k_ ≠ (.slice Ao37 t246.length co37 : Value).ownBlock) ∧ some k_ ≠ (.slice Ao116 t268.length co116 : Value).ownBlock) ∧ some k_ ≠ (.slice Ao124 t274.length co124 : Value).ownBlock)) (n := t231.length) (c := co23) ?_).2.2; exact (by (with_reducible repeat (first | apply Kd.R_alloc | apply Kd.R_drewN | apply Kd.R_drew)); exact (Kd.R_mono (Kd.R_far (p := ⟨gb278, 3, none⟩) (Kd.R_far (p := ⟨gb278, 2, none⟩) (Kd.R_far (p := ⟨gb278, 1, none⟩) (Kd.R_far (p := ⟨gb278, 0, none⟩) (Kd.R_types HO_236003.out BK278.out (by decide)) (fun _ hk => hk.2) (.int .i64 t271)) (fun _ hk => hk.2) (.int .i64 t272)) (fun _ hk => hk.2) (.int .i64 t273)) (fun _ hk => hk.2) (.slice Ao124 t274.length co124)) (fun _ h_ => h_.1)))); (case side4 => exact (Kd.R_reads' HO_236003.out).2.1); rintro e w136 ⟨rfl, hb⟩; refine ⟨_, rfl, ?_⟩; have n0_ := Aside0.mk (Kd.R_below (by (with_reducible repeat (first | apply Kd.R_alloc | apply Kd.R_drewN | apply Kd.R_drew)); exact (Kd.R_mono (Kd.R_far (p := ⟨gb278, 3, none⟩) (Kd.R_far (p := ⟨gb278, 2, none⟩) (Kd.R_far (p := ⟨gb278, 1, none⟩) (Kd.R_far (p := ⟨gb278, 0, none⟩) (Kd.R_types HO_236003.out BK278.out (by decide)) (fun _ hk => hk.2) (.int .i64 t271)) (fun _ hk => hk.2) (.int .i64 t272)) (fun _ hk => hk.2) (.int .i64 t273)) (fun _ hk => hk.2) (.slice Ao124 t274.length co124)) (fun _ h_ => h_.1))) hb); have n1_ := Aside0.mk (Kd.R_below (by (with_reducible repeat (first | apply Kd.R_alloc | apply Kd.R_drewN | apply Kd.R_drew)); exact (Kd.R_mono (Kd.R_far (p := ⟨gb278, 3, none⟩) (Kd.R_far (p := ⟨gb278, 2, none⟩) (Kd.R_far (p := ⟨gb278, 1, none⟩) (Kd.R_far (p := ⟨gb278, 0, none⟩) (Kd.R_types HO_243003.out BK278.out (by decide)) (fun _ hk => hk.2) (.int .i64 t271)) (fun _ hk => hk.2) (.int .i64 t272)) (fun _ hk => hk.2) (.int .i64 t273)) (fun _ hk => hk.2) (.slice Ao124 t274.length co124)) (fun _ h_ => h_.1))) hb); have n2_ := Aside0.mk (Kd.R_below (by (with_reducible repeat (first | apply Kd.R_alloc | apply Kd.R_drewN | apply Kd.R_drew)); exact (Kd.R_mono (Kd.R_far (p := ⟨gb278, 3, none⟩) (Kd.R_far (p := ⟨gb278, 2, none⟩) (Kd.R_far (p := ⟨gb278, 1, none⟩) (Kd.R_far (p := ⟨gb278, 0, none⟩) (Kd.R_types HO_251003.out BK278.out (by decide)) (fun _ hk => hk.2) (.int .i64 t271)) (fun _ hk => hk.2) (.int .i64 t272)) (fun _ hk => hk.2) (.int .i64 t273)) (fun _ hk => hk.2) (.slice Ao124 t274.length co124)) (fun _ h_ => h_.1))) hb); have n3_ := Aside0.mk (Kd.R_below (by (with_reducible repeat (first | apply Kd.R_alloc | apply Kd.R_drewN | apply Kd.R_drew)); exact (Kd.R_mono (Kd.R_far (p := ⟨gb278, 3, none⟩) (Kd.R_far (p := ⟨gb278, 2, none⟩) (Kd.R_far (p := ⟨gb278, 1, none⟩) (Kd.R_far (p := ⟨gb278, 0, none⟩) (Kd.R_types HO270.out BK278.out (by decide)) (fun _ hk => hk.2) (.int .i64 t271)) (fun _ hk => hk.2) (.int .i64 t272)) (fun _ hk => hk.2) (.int .i64 t273)) (fun _ hk => hk.2) (.slice Ao124 t274.length co124)) (fun _ h_ => h_.1))) hb); have n4_ := Aside0.mk (Kd.R_below (by (with_reducible repeat (first | apply Kd.R_alloc | apply Kd.R_drewN | apply Kd.R_drew)); exact (Kd.R_mono (Kd.R_far (p := ⟨gb278, 3, none⟩) (Kd.R_far (p := ⟨gb278, 2, none⟩) (Kd.R_far (p := ⟨gb278, 1, none⟩) (Kd.R_far (p := ⟨gb278, 0, none⟩) (Kd.R_types HO276.out BK278.out (by decide)) (fun _ hk => hk.2) (.int .i64 t271)) (fun _ hk => hk.2) (.int .i64 t272)) (fun _ hk => hk.2) (.int .i64 t273)) (fun _ hk => hk.2) (.slice Ao124 t274.length co124)) (fun _ h_ => h_.1))) hb); have n5_ := Aside0.mk (blk_below (g := gb220) (o := .cells #[.int .i64 a0_0, .int .i64 a0_1, .int .i64 a0_2, .slice A0_3 l0_3.length c0_3] 64 (0, 0)) (by (with_reducible repeat (first | refine blk_drewN ?_ _ | refine blk_drew ?_ | refine blk_alloc ?_ _)); refine blk_far ?_ NB220_278.out _; (with_reducible repeat (first | refine blk_drewN ?_ _ | refine blk_drew ?_ | refine blk_alloc ?_ _)); refine blk_far ?_ NB220_278.out _; (with_reducible repeat (first | refine blk_drewN ?_ _ | refine blk_drew ?_ | refine blk_alloc ?_ _)); refine blk_far ?_ NB220_278.out _; (with_reducible repeat (first | refine blk_drewN ?_ _ | refine blk_drew ?_ | refine blk_alloc ?_ _)); refine blk_far ?_ NB220_278.out _; (with_reducible repeat (first | refine blk_drewN ?_ _ | refine blk_drew ?_ | refine blk_alloc ?_ _)); exact BK220.out) hb); have n6_ := Aside0.mk (blk_below (g := gb235) (o := .cells #[.int .i64 t228, .int .i64 t229, .int .i64 t230, .slice Ao23 t231.length co23] 69 (0, 0)) (by (with_reducible repeat (first | refine blk_drewN ?_ _ | refine blk_drew ?_ | refine blk_alloc ?_ _)); refine blk_far ?_ NB235_278.out _; (with_reducible repeat (first | refine blk_drewN ?_ _ | refine blk_drew ?_ | refine blk_alloc ?_ _)); refine blk_far ?_ NB235_278.out _; (with_reducible repeat (first | refine blk_drewN ?_ _ | refine blk_drew ?_ | refine blk_alloc ?_ _)); refine blk_far ?_ NB235_278.out _; (with_reducible repeat (first | refine blk_drewN ?_ _ | refine blk_drew ?_ | refine blk_alloc ?_ _)); refine blk_far ?_ NB235_278.out _; (with_reducible repeat (first | refine blk_drewN ?_ _ | refine blk_drew ?_ | refine blk_alloc ?_ _)); exact BK235.out) hb); have n7_ := Aside0.mk (blk_below (g := gb242) (o := .cells #[.int .i64 t236, .int .i64 t237, .int .i64 t238, .slice Ao30 t260.length co30] 69 (0, 0)) (by (with_reducible repeat (first | refine blk_drewN ?_ _ | refine blk_drew ?_ | refine blk_alloc ?_ _)); refine blk_far ?_ NB242_278.out _; (with_reducible repeat (first | refine blk_drewN ?_ _ | refine blk_drew ?_ | refine blk_alloc ?_ _)); refine blk_far ?_ NB242_278.out _; (with_reducible repeat (first | refine blk_drewN ?_ _ | refine blk_drew ?_ | refine blk_alloc ?_ _)); refine blk_far ?_ NB242_278.out _; (with_reducible repeat (first | refine blk_drewN ?_ _ | refine blk_drew ?_ | refine blk_alloc ?_ _)); refine blk_far ?_ NB242_278.out _; (with_reducible repeat (first | refine blk_drewN ?_ _ | refine blk_drew ?_ | refine blk_alloc ?_ _)); exact BK242.out) hb); have n8_ := Aside0.mk (blk_below (g := gb250) (o := .cells #[.int .i64 t243, .int .i64 t244, .int .i64 t245, .slice Ao37 t246.length co37] 69 (0, 0)) (by (with_reducible repeat (first | refine blk_drewN ?_ _ | refine blk_drew ?_ | refine blk_alloc ?_ _)); refine blk_far ?_ NB250_278.out _; (with_reducible repeat (first | refine blk_drewN ?_ _ | refine blk_drew ?_ | refine blk_alloc ?_ _)); refine blk_far ?_ NB250_278.out _; (with_reducible repeat (first | refine blk_drewN ?_ _ | refine blk_drew ?_ | refine blk_alloc ?_ _)); refine blk_far ?_ NB250_278.out _; (with_reducible repeat (first | refine blk_drewN ?_ _ | refine blk_drew ?_ | refine blk_alloc ?_ _)); refine blk_far ?_ NB250_278.out _; (with_reducible repeat (first | refine blk_drewN ?_ _ | refine blk_drew ?_ | refine blk_alloc ?_ _)); exact BK250.out) hb); have n9_ := Aside0.mk (blk_below (g := gb278) (o := .cells #[.int .i64 t271, .int .i64 t272, .int .i64 t273, .slice Ao124 t274.length co124] 69 (0, 0)) (by (with_reducible repeat (first | refine blk_drewN ?_ _ | refine blk_drew ?_ | refine blk_alloc ?_ _)); refine blk_put (cs := #[.int .i64 t271, .int .i64 t272, .int .i64 t273, .slice none 0 0]) ?_ 3 _ rfl; (with_reducible repeat (first | refine blk_drewN ?_ _ | refine blk_drew ?_ | refine blk_alloc ?_ _)); refine blk_put (cs := #[.int .i64 t271, .int .i64 t272, .int .i64 0, .slice none 0 0]) ?_ 2 _ rfl; (with_reducible repeat (first | refine blk_drewN ?_ _ | refine blk_drew ?_ | refine blk_alloc ?_ _)); refine blk_put (cs := #[.int .i64 t271, .int .i64 0, .int .i64 0, .slice none 0 0]) ?_ 1 _ rfl; (with_reducible repeat (first | refine blk_drewN ?_ _ | refine blk_drew ?_ | refine blk_alloc ?_ _)); refine blk_put (cs := #[.int .i64 0, .int .i64 0, .int .i64 0, .slice none 0 0]) ?_ 0 _ rfl; (with_reducible repeat (first | refine blk_drewN ?_ _ | refine blk_drew ?_ | refine blk_alloc ?_ _)); exact BK278.out) hb); have n10_ := Aside0.mk (below_step (by repeat (first | (with_reducible first | exact HB.out | apply below_alloc | apply pw_below_drewN | apply below_drew1 | refine below_set ?_ GE220.out | refine below_set ?_ GE235.out | refine below_set ?_ GE242.out | refine below_set ?_ GE250.out | refine below_set ?_ GE278.out) | exact HB.out)) hb); clear HO_236003; clear HO_243003; clear HO_251003; clear HO270; clear HO276; clear BK220; clear BK235; clear BK242; clear BK250; clear BK278; clear HB; have HO_236003 := n0_; have HO_243003 := n1_; have HO_251003 := n2_; have HO270 := n3_; have HO276 := n4_; have BK220 := n5_; have BK235 := n6_; have BK242 := n7_; have BK250 := n8_; have BK278 := n9_; have HB := n10_; clear n0_ n1_ n2_ n3_ n4_ n5_ n6_ n7_ n8_ n9_ n10_; (try clear hb); (try clear hb2); (try clear hk); (try clear hi)))
                          go_meet
                          case rel => exact ⟨_, ((t277 != t234)), (by first | rfl | (simp; done) | (simp [*]; done)), H', ⟨by have := HJ11.out; have := HJ60.out; first | omega | exact Nat.le_refl _⟩, ⟨by (try simp only [hl243003_60]); (with_reducible repeat (first | apply Kd.R_alloc | apply Kd.R_drewN | apply Kd.R_drew)); exact Kd.R_mono HO_236003.out (fun _ hk => ⟨hk.1.1.1, ⟨hk.1.1.2, hk.2⟩⟩)⟩, ⟨by (try simp only [hl243003_60]); (with_reducible repeat (first | apply Kd.R_alloc | apply Kd.R_drewN | apply Kd.R_drew)); exact Kd.R_mono HO_243003.out (fun _ hk => ⟨hk.1.1.1, ⟨hk.1.1.2, hk.2⟩⟩)⟩, ⟨by (try simp only [hl243003_60]); (with_reducible repeat (first | apply Kd.R_alloc | apply Kd.R_drewN | apply Kd.R_drew)); exact Kd.R_mono HO_251003.out (fun _ hk => ⟨hk.1.1.1, ⟨hk.1.1.2, hk.2⟩⟩)⟩, ⟨by (try simp only [hl243003_60]); (with_reducible repeat (first | apply Kd.R_alloc | apply Kd.R_drewN | apply Kd.R_drew)); exact Kd.R_mono HO276.out (fun _ hk => ⟨hk.1.1.1.2, ⟨hk.1.1.2, hk.1.2⟩⟩)⟩, ⟨by (try simp only [hl243003_60]); (with_reducible repeat (first | refine blk_drewN ?_ _ | refine blk_drew ?_ | refine blk_alloc ?_ _)); exact BK220.out⟩, ⟨by (try simp only [hl243003_60]); (with_reducible repeat (first | refine blk_drewN ?_ _ | refine blk_drew ?_ | refine blk_alloc ?_ _)); exact BK235.out⟩, ⟨by (try simp only [hl243003_60]); (with_reducible repeat (first | refine blk_drewN ?_ _ | refine blk_drew ?_ | refine blk_alloc ?_ _)); exact BK242.out⟩, ⟨by (try simp only [hl243003_60]); (with_reducible repeat (first | refine blk_drewN ?_ _ | refine blk_drew ?_ | refine blk_alloc ?_ _)); exact BK250.out⟩, ⟨by (try simp only [hl243003_60]); (with_reducible repeat (first | refine blk_drewN ?_ _ | refine blk_drew ?_ | refine blk_alloc ?_ _)); exact BK278.out⟩, ⟨by repeat (first | (with_reducible first | exact HB.out | apply below_alloc | apply pw_below_drewN | apply below_drew1 | refine below_set ?_ GE220.out | refine below_set ?_ GE235.out | refine below_set ?_ GE242.out | refine below_set ?_ GE250.out | refine below_set ?_ GE278.out) | exact HB.out)⟩⟩
                        · replace c126 := Bool.eq_false_iff.mpr c126
                          subst c126
                          have H1 : (laws_FnExactTableCap.j2 kj60 t262 true t243 t244 t245 t263) = some r := by rw [if_neg (show ¬ (false = true) by decide)] at H; exact H
                          clear H
                          have H := H1
                          clear H1
                          have H' := Aside0.mk H
                          clear H
                          have hnb137 := NB278_220.out
                          have hnc137 := NB220_278.out
                          have hnb138 := NB278_235.out
                          have hnc138 := NB235_278.out
                          have hnb139 := NB278_242.out
                          have hnc139 := NB242_278.out
                          have hnb140 := NB278_250.out
                          have hnc140 := NB250_278.out
                          have hcz141_0 : w118.cell? ⟨gb278, 0, none⟩ = some (.int .i64 0) := (blk_cell BK278.out 0).trans rfl
                          have hcz141_1 : w118.cell? ⟨gb278, 1, none⟩ = some (.int .i64 0) := (blk_cell BK278.out 1).trans rfl
                          have hcz141_2 : w118.cell? ⟨gb278, 2, none⟩ = some (.int .i64 0) := (blk_cell BK278.out 2).trans rfl
                          have hcz141_3 : w118.cell? ⟨gb278, 3, none⟩ = some (.slice none 0 0) := (blk_cell BK278.out 3).trans rfl
                          have hfz141_0 := blk_frozen BK278.out 0
                          have hfz141_1 := blk_frozen BK278.out 1
                          have hfz141_2 := blk_frozen BK278.out 2
                          have hfz141_3 := blk_frozen BK278.out 3
                          have hnb142 := NB235_220.out
                          have hnc142 := NB220_235.out
                          have hnb143 := NB235_242.out
                          have hnc143 := NB242_235.out
                          have hnb144 := NB235_250.out
                          have hnc144 := NB250_235.out
                          have hcz145_0 : w118.cell? ⟨gb235, 0, none⟩ = some (.int .i64 t228) := (blk_cell BK235.out 0).trans rfl
                          have hcz145_1 : w118.cell? ⟨gb235, 1, none⟩ = some (.int .i64 t229) := (blk_cell BK235.out 1).trans rfl
                          have hcz145_2 : w118.cell? ⟨gb235, 2, none⟩ = some (.int .i64 t230) := (blk_cell BK235.out 2).trans rfl
                          have hcz145_3 : w118.cell? ⟨gb235, 3, none⟩ = some (.slice Ao23 t231.length co23) := (blk_cell BK235.out 3).trans rfl
                          have hfz145_0 := blk_frozen BK235.out 0
                          have hfz145_1 := blk_frozen BK235.out 1
                          have hfz145_2 := blk_frozen BK235.out 2
                          have hfz145_3 := blk_frozen BK235.out 3
                          go_wp2_with (first | ((with_reducible refine gate_callee (f := 42) rfl ?_); refine goesL_ (some 86) rfl rfl Try.func42 (by kernel_rfl) rfl #[.agg #[.int .i64 t271, .int .i64 t272, .int .i64 t273, .slice Ao124 t274.length co124], .agg #[.int .i64 t228, .int .i64 t229, .int .i64 t230, .slice Ao23 t231.length co23]] rfl (by (try simp only [List.map_toArray, List.map_cons, List.map_nil]); first | done | rfl | (simp only [List.length_drop, List.length_take]; rfl)) ?_; (with_reducible refine (laws_eqTable.calls kj60 t271 t272 t273 _ _ t274 t228 t229 t230 _ _ t231 false _ ?side1 ?side2 ?side3 ?side4 A125.out).mono ?_); (case side1 => refine (Kd.R_reads' (e := 23) (base := w.heap.size) (ok := fun k_ => ((((True ∧ some k_ ≠ (.slice Ao23 t231.length co23 : Value).ownBlock) ∧ some k_ ≠ (.slice Ao30 t260.length co30 : Value).ownBlock) ∧ some k_ ≠ (.slice Ao37 t246.length co37 : Value).ownBlock) ∧ some k_ ≠ (.slice Ao116 t268.length co116 : Value).ownBlock)) (n := t274.length) (c := co124) ?_).2.2; exact (by (with_reducible repeat (first | apply Kd.R_alloc | apply Kd.R_drewN | apply Kd.R_drew)); exact (Kd.R_mono (Kd.R_far (p := ⟨gb278, 3, none⟩) (Kd.R_far (p := ⟨gb278, 2, none⟩) (Kd.R_far (p := ⟨gb278, 1, none⟩) (Kd.R_far (p := ⟨gb278, 0, none⟩) (Kd.R_types HO276.out BK278.out (by decide)) (fun _ hk => hk.2) (.int .i64 t271)) (fun _ hk => hk.2) (.int .i64 t272)) (fun _ hk => hk.2) (.int .i64 t273)) (fun _ hk => hk.2) (.slice Ao124 t274.length co124)) (fun _ h_ => h_.1)))); (case side2 => exact (Kd.R_reads' HO276.out).2.1); (case side3 => refine (Kd.R_reads' (e := 23) (base := w.heap.size) (ok := fun k_ => (((some k_ ≠ (.slice Ao30 t260.length co30 : Value).ownBlock ∧ some k_ ≠ (.slice Ao37 t246.length co37 : Value).ownBlock) ∧ some k_ ≠ (.slice Ao116 t268.length co116 : Value).ownBlock) ∧ some k_ ≠ (.slice Ao124 t274.length co124 : Value).ownBlock)) (n := t231.length) (c := co23) ?_).2.2; exact (by (with_reducible repeat (first | apply Kd.R_alloc | apply Kd.R_drewN | apply Kd.R_drew)); exact (Kd.R_mono (Kd.R_far (p := ⟨gb278, 3, none⟩) (Kd.R_far (p := ⟨gb278, 2, none⟩) (Kd.R_far (p := ⟨gb278, 1, none⟩) (Kd.R_far (p := ⟨gb278, 0, none⟩) (Kd.R_types HO_236003.out BK278.out (by decide)) (fun _ hk => hk.2) (.int .i64 t271)) (fun _ hk => hk.2) (.int .i64 t272)) (fun _ hk => hk.2) (.int .i64 t273)) (fun _ hk => hk.2) (.slice Ao124 t274.length co124)) (fun _ h_ => h_.1)))); (case side4 => exact (Kd.R_reads' HO_236003.out).2.1); rintro e w146 ⟨rfl, hb⟩; refine ⟨_, rfl, ?_⟩; have n0_ := Aside0.mk (Kd.R_below (by (with_reducible repeat (first | apply Kd.R_alloc | apply Kd.R_drewN | apply Kd.R_drew)); exact (Kd.R_mono (Kd.R_far (p := ⟨gb278, 3, none⟩) (Kd.R_far (p := ⟨gb278, 2, none⟩) (Kd.R_far (p := ⟨gb278, 1, none⟩) (Kd.R_far (p := ⟨gb278, 0, none⟩) (Kd.R_types HO_236003.out BK278.out (by decide)) (fun _ hk => hk.2) (.int .i64 t271)) (fun _ hk => hk.2) (.int .i64 t272)) (fun _ hk => hk.2) (.int .i64 t273)) (fun _ hk => hk.2) (.slice Ao124 t274.length co124)) (fun _ h_ => h_.1))) hb); have n1_ := Aside0.mk (Kd.R_below (by (with_reducible repeat (first | apply Kd.R_alloc | apply Kd.R_drewN | apply Kd.R_drew)); exact (Kd.R_mono (Kd.R_far (p := ⟨gb278, 3, none⟩) (Kd.R_far (p := ⟨gb278, 2, none⟩) (Kd.R_far (p := ⟨gb278, 1, none⟩) (Kd.R_far (p := ⟨gb278, 0, none⟩) (Kd.R_types HO_243003.out BK278.out (by decide)) (fun _ hk => hk.2) (.int .i64 t271)) (fun _ hk => hk.2) (.int .i64 t272)) (fun _ hk => hk.2) (.int .i64 t273)) (fun _ hk => hk.2) (.slice Ao124 t274.length co124)) (fun _ h_ => h_.1))) hb); have n2_ := Aside0.mk (Kd.R_below (by (with_reducible repeat (first | apply Kd.R_alloc | apply Kd.R_drewN | apply Kd.R_drew)); exact (Kd.R_mono (Kd.R_far (p := ⟨gb278, 3, none⟩) (Kd.R_far (p := ⟨gb278, 2, none⟩) (Kd.R_far (p := ⟨gb278, 1, none⟩) (Kd.R_far (p := ⟨gb278, 0, none⟩) (Kd.R_types HO_251003.out BK278.out (by decide)) (fun _ hk => hk.2) (.int .i64 t271)) (fun _ hk => hk.2) (.int .i64 t272)) (fun _ hk => hk.2) (.int .i64 t273)) (fun _ hk => hk.2) (.slice Ao124 t274.length co124)) (fun _ h_ => h_.1))) hb); have n3_ := Aside0.mk (Kd.R_below (by (with_reducible repeat (first | apply Kd.R_alloc | apply Kd.R_drewN | apply Kd.R_drew)); exact (Kd.R_mono (Kd.R_far (p := ⟨gb278, 3, none⟩) (Kd.R_far (p := ⟨gb278, 2, none⟩) (Kd.R_far (p := ⟨gb278, 1, none⟩) (Kd.R_far (p := ⟨gb278, 0, none⟩) (Kd.R_types HO270.out BK278.out (by decide)) (fun _ hk => hk.2) (.int .i64 t271)) (fun _ hk => hk.2) (.int .i64 t272)) (fun _ hk => hk.2) (.int .i64 t273)) (fun _ hk => hk.2) (.slice Ao124 t274.length co124)) (fun _ h_ => h_.1))) hb); have n4_ := Aside0.mk (Kd.R_below (by (with_reducible repeat (first | apply Kd.R_alloc | apply Kd.R_drewN | apply Kd.R_drew)); exact (Kd.R_mono (Kd.R_far (p := ⟨gb278, 3, none⟩) (Kd.R_far (p := ⟨gb278, 2, none⟩) (Kd.R_far (p := ⟨gb278, 1, none⟩) (Kd.R_far (p := ⟨gb278, 0, none⟩) (Kd.R_types HO276.out BK278.out (by decide)) (fun _ hk => hk.2) (.int .i64 t271)) (fun _ hk => hk.2) (.int .i64 t272)) (fun _ hk => hk.2) (.int .i64 t273)) (fun _ hk => hk.2) (.slice Ao124 t274.length co124)) (fun _ h_ => h_.1))) hb); have n5_ := Aside0.mk (blk_below (g := gb220) (o := .cells #[.int .i64 a0_0, .int .i64 a0_1, .int .i64 a0_2, .slice A0_3 l0_3.length c0_3] 64 (0, 0)) (by (with_reducible repeat (first | refine blk_drewN ?_ _ | refine blk_drew ?_ | refine blk_alloc ?_ _)); refine blk_far ?_ NB220_278.out _; (with_reducible repeat (first | refine blk_drewN ?_ _ | refine blk_drew ?_ | refine blk_alloc ?_ _)); refine blk_far ?_ NB220_278.out _; (with_reducible repeat (first | refine blk_drewN ?_ _ | refine blk_drew ?_ | refine blk_alloc ?_ _)); refine blk_far ?_ NB220_278.out _; (with_reducible repeat (first | refine blk_drewN ?_ _ | refine blk_drew ?_ | refine blk_alloc ?_ _)); refine blk_far ?_ NB220_278.out _; (with_reducible repeat (first | refine blk_drewN ?_ _ | refine blk_drew ?_ | refine blk_alloc ?_ _)); exact BK220.out) hb); have n6_ := Aside0.mk (blk_below (g := gb235) (o := .cells #[.int .i64 t228, .int .i64 t229, .int .i64 t230, .slice Ao23 t231.length co23] 69 (0, 0)) (by (with_reducible repeat (first | refine blk_drewN ?_ _ | refine blk_drew ?_ | refine blk_alloc ?_ _)); refine blk_far ?_ NB235_278.out _; (with_reducible repeat (first | refine blk_drewN ?_ _ | refine blk_drew ?_ | refine blk_alloc ?_ _)); refine blk_far ?_ NB235_278.out _; (with_reducible repeat (first | refine blk_drewN ?_ _ | refine blk_drew ?_ | refine blk_alloc ?_ _)); refine blk_far ?_ NB235_278.out _; (with_reducible repeat (first | refine blk_drewN ?_ _ | refine blk_drew ?_ | refine blk_alloc ?_ _)); refine blk_far ?_ NB235_278.out _; (with_reducible repeat (first | refine blk_drewN ?_ _ | refine blk_drew ?_ | refine blk_alloc ?_ _)); exact BK235.out) hb); have n7_ := Aside0.mk (blk_below (g := gb242) (o := .cells #[.int .i64 t236, .int .i64 t237, .int .i64 t238, .slice Ao30 t260.length co30] 69 (0, 0)) (by (with_reducible repeat (first | refine blk_drewN ?_ _ | refine blk_drew ?_ | refine blk_alloc ?_ _)); refine blk_far ?_ NB242_278.out _; (with_reducible repeat (first | refine blk_drewN ?_ _ | refine blk_drew ?_ | refine blk_alloc ?_ _)); refine blk_far ?_ NB242_278.out _; (with_reducible repeat (first | refine blk_drewN ?_ _ | refine blk_drew ?_ | refine blk_alloc ?_ _)); refine blk_far ?_ NB242_278.out _; (with_reducible repeat (first | refine blk_drewN ?_ _ | refine blk_drew ?_ | refine blk_alloc ?_ _)); refine blk_far ?_ NB242_278.out _; (with_reducible repeat (first | refine blk_drewN ?_ _ | refine blk_drew ?_ | refine blk_alloc ?_ _)); exact BK242.out) hb); have n8_ := Aside0.mk (blk_below (g := gb250) (o := .cells #[.int .i64 t243, .int .i64 t244, .int .i64 t245, .slice Ao37 t246.length co37] 69 (0, 0)) (by (with_reducible repeat (first | refine blk_drewN ?_ _ | refine blk_drew ?_ | refine blk_alloc ?_ _)); refine blk_far ?_ NB250_278.out _; (with_reducible repeat (first | refine blk_drewN ?_ _ | refine blk_drew ?_ | refine blk_alloc ?_ _)); refine blk_far ?_ NB250_278.out _; (with_reducible repeat (first | refine blk_drewN ?_ _ | refine blk_drew ?_ | refine blk_alloc ?_ _)); refine blk_far ?_ NB250_278.out _; (with_reducible repeat (first | refine blk_drewN ?_ _ | refine blk_drew ?_ | refine blk_alloc ?_ _)); refine blk_far ?_ NB250_278.out _; (with_reducible repeat (first | refine blk_drewN ?_ _ | refine blk_drew ?_ | refine blk_alloc ?_ _)); exact BK250.out) hb); have n9_ := Aside0.mk (blk_below (g := gb278) (o := .cells #[.int .i64 t271, .int .i64 t272, .int .i64 t273, .slice Ao124 t274.length co124] 69 (0, 0)) (by (with_reducible repeat (first | refine blk_drewN ?_ _ | refine blk_drew ?_ | refine blk_alloc ?_ _)); refine blk_put (cs := #[.int .i64 t271, .int .i64 t272, .int .i64 t273, .slice none 0 0]) ?_ 3 _ rfl; (with_reducible repeat (first | refine blk_drewN ?_ _ | refine blk_drew ?_ | refine blk_alloc ?_ _)); refine blk_put (cs := #[.int .i64 t271, .int .i64 t272, .int .i64 0, .slice none 0 0]) ?_ 2 _ rfl; (with_reducible repeat (first | refine blk_drewN ?_ _ | refine blk_drew ?_ | refine blk_alloc ?_ _)); refine blk_put (cs := #[.int .i64 t271, .int .i64 0, .int .i64 0, .slice none 0 0]) ?_ 1 _ rfl; (with_reducible repeat (first | refine blk_drewN ?_ _ | refine blk_drew ?_ | refine blk_alloc ?_ _)); refine blk_put (cs := #[.int .i64 0, .int .i64 0, .int .i64 0, .slice none 0 0]) ?_ 0 _ rfl; (with_reducible repeat (first | refine blk_drewN ?_ _ | refine blk_drew ?_ | refine blk_alloc ?_ _)); exact BK278.out) hb); have n10_ := Aside0.mk (below_step (by repeat (first | (with_reducible first | exact HB.out | apply below_alloc | apply pw_below_drewN | apply below_drew1 | refine below_set ?_ GE220.out | refine below_set ?_ GE235.out | refine below_set ?_ GE242.out | refine below_set ?_ GE250.out | refine below_set ?_ GE278.out) | exact HB.out)) hb); clear HO_236003; clear HO_243003; clear HO_251003; clear HO270; clear HO276; clear BK220; clear BK235; clear BK242; clear BK250; clear BK278; clear HB; have HO_236003 := n0_; have HO_243003 := n1_; have HO_251003 := n2_; have HO270 := n3_; have HO276 := n4_; have BK220 := n5_; have BK235 := n6_; have BK242 := n7_; have BK250 := n8_; have BK278 := n9_; have HB := n10_; clear n0_ n1_ n2_ n3_ n4_ n5_ n6_ n7_ n8_ n9_ n10_; (try clear hb); (try clear hb2); (try clear hk); (try clear hi)))
                          go_meet
                          case rel => exact ⟨_, (true), (by first | rfl | (simp; done) | (simp [*]; done)), H', ⟨by have := HJ11.out; have := HJ60.out; first | omega | exact Nat.le_refl _⟩, ⟨by (try simp only [hl243003_60]); (with_reducible repeat (first | apply Kd.R_alloc | apply Kd.R_drewN | apply Kd.R_drew)); exact Kd.R_mono HO_236003.out (fun _ hk => ⟨hk.1.1.1, ⟨hk.1.1.2, hk.2⟩⟩)⟩, ⟨by (try simp only [hl243003_60]); (with_reducible repeat (first | apply Kd.R_alloc | apply Kd.R_drewN | apply Kd.R_drew)); exact Kd.R_mono HO_243003.out (fun _ hk => ⟨hk.1.1.1, ⟨hk.1.1.2, hk.2⟩⟩)⟩, ⟨by (try simp only [hl243003_60]); (with_reducible repeat (first | apply Kd.R_alloc | apply Kd.R_drewN | apply Kd.R_drew)); exact Kd.R_mono HO_251003.out (fun _ hk => ⟨hk.1.1.1, ⟨hk.1.1.2, hk.2⟩⟩)⟩, ⟨by (try simp only [hl243003_60]); (with_reducible repeat (first | apply Kd.R_alloc | apply Kd.R_drewN | apply Kd.R_drew)); exact Kd.R_mono HO276.out (fun _ hk => ⟨hk.1.1.1.2, ⟨hk.1.1.2, hk.1.2⟩⟩)⟩, ⟨by (try simp only [hl243003_60]); (with_reducible repeat (first | refine blk_drewN ?_ _ | refine blk_drew ?_ | refine blk_alloc ?_ _)); exact BK220.out⟩, ⟨by (try simp only [hl243003_60]); (with_reducible repeat (first | refine blk_drewN ?_ _ | refine blk_drew ?_ | refine blk_alloc ?_ _)); exact BK235.out⟩, ⟨by (try simp only [hl243003_60]); (with_reducible repeat (first | refine blk_drewN ?_ _ | refine blk_drew ?_ | refine blk_alloc ?_ _)); exact BK242.out⟩, ⟨by (try simp only [hl243003_60]); (with_reducible repeat (first | refine blk_drewN ?_ _ | refine blk_drew ?_ | refine blk_alloc ?_ _)); exact BK250.out⟩, ⟨by (try simp only [hl243003_60]); (with_reducible repeat (first | refine blk_drewN ?_ _ | refine blk_drew ?_ | refine blk_alloc ?_ _)); exact BK278.out⟩, ⟨by repeat (first | (with_reducible first | exact HB.out | apply below_alloc | apply pw_below_drewN | apply below_drew1 | refine below_set ?_ GE220.out | refine below_set ?_ GE235.out | refine below_set ?_ GE242.out | refine below_set ?_ GE250.out | refine below_set ?_ GE278.out) | exact HB.out)⟩⟩
                      case rest =>
                        clear HC104
                        try clear c1
                        try clear c2
                        try clear p2
                        try clear c3
                        try clear c4
                        try clear c4b0
                        try clear c5
                        try clear c6
                        try clear c7
                        try clear c8
                        try clear c9
                        try clear c10
                        try clear c11
                        try clear c12
                        try clear c13
                        try clear c14
                        try clear c21
                        try clear c27
                        try clear c28
                        try clear c33
                        try clear c34
                        try clear c35
                        try clear c38
                        try clear c39
                        try clear c40
                        try clear c41
                        try clear c42
                        try clear c44
                        try clear c45
                        try clear c46
                        try clear c47
                        try clear c48
                        try clear c49
                        try clear c50
                        try clear c52
                        try clear c53
                        try clear c56
                        try clear c59
                        try clear c66
                        try clear c67
                        try clear c68
                        try clear c71
                        try clear c71b0
                        try clear c73
                        try clear c74
                        try clear c75
                        try clear c76
                        try clear c78
                        try clear c79
                        try clear c82
                        try clear c83
                        try clear c84
                        try clear c86
                        try clear c87
                        try clear c90
                        try clear c93
                        try clear c93b0
                        try clear c94
                        try clear c95
                        try clear c96
                        try clear c101
                        try clear c101b0
                        try clear c101b1
                        try clear c105
                        try clear c106
                        try clear c107
                        try clear c112
                        try clear c113
                        try clear c119
                        try clear c120
                        try clear c121
                        try clear c122
                        try clear c126
                        try clear c127
                        try clear c128
                        try clear c129
                        try clear c130
                        try clear c132
                        try clear c133
                        try clear c134
                        try clear c137
                        try clear c138
                        try clear c139
                        try clear c140
                        try clear c142
                        try clear c143
                        try clear c144
                        try clear hcz108_0
                        try clear hcz108_1
                        try clear hcz108_2
                        try clear hcz108_3
                        try clear hcz110_0
                        try clear hcz110_1
                        try clear hcz110_2
                        try clear hcz110_3
                        try clear hcz114_0
                        try clear hcz114_1
                        try clear hcz114_2
                        try clear hcz114_3
                        try clear hcz123_0
                        try clear hcz123_1
                        try clear hcz123_2
                        try clear hcz123_3
                        try clear hcz131_0
                        try clear hcz131_1
                        try clear hcz131_2
                        try clear hcz131_3
                        try clear hcz135_0
                        try clear hcz135_1
                        try clear hcz135_2
                        try clear hcz135_3
                        try clear hcz141_0
                        try clear hcz141_1
                        try clear hcz141_2
                        try clear hcz141_3
                        try clear hcz145_0
                        try clear hcz145_1
                        try clear hcz145_2
                        try clear hcz145_3
                        try clear hcz14_0
                        try clear hcz14_1
                        try clear hcz14_2
                        try clear hcz14_3
                        try clear hcz16_0
                        try clear hcz16_1
                        try clear hcz16_2
                        try clear hcz16_3
                        try clear hcz22_0
                        try clear hcz22_1
                        try clear hcz22_2
                        try clear hcz22_3
                        try clear hcz24_0
                        try clear hcz24_1
                        try clear hcz24_2
                        try clear hcz24_3
                        try clear hcz29_0
                        try clear hcz29_1
                        try clear hcz29_2
                        try clear hcz29_3
                        try clear hcz36_0
                        try clear hcz36_1
                        try clear hcz36_2
                        try clear hcz36_3
                        try clear hcz43_0
                        try clear hcz43_1
                        try clear hcz43_2
                        try clear hcz43_3
                        try clear hcz46_0
                        try clear hcz46_1
                        try clear hcz46_2
                        try clear hcz46_3
                        try clear hcz51_0
                        try clear hcz51_1
                        try clear hcz51_2
                        try clear hcz51_3
                        try clear hcz54_0
                        try clear hcz54_1
                        try clear hcz54_2
                        try clear hcz54_3
                        try clear hcz69_0
                        try clear hcz69_1
                        try clear hcz69_2
                        try clear hcz69_3
                        try clear hcz6_0
                        try clear hcz6_1
                        try clear hcz6_2
                        try clear hcz6_3
                        try clear hcz77_0
                        try clear hcz77_1
                        try clear hcz77_2
                        try clear hcz77_3
                        try clear hcz80_0
                        try clear hcz80_1
                        try clear hcz80_2
                        try clear hcz80_3
                        try clear hcz85_0
                        try clear hcz85_1
                        try clear hcz85_2
                        try clear hcz85_3
                        try clear hcz88_0
                        try clear hcz88_1
                        try clear hcz88_2
                        try clear hcz88_3
                        try clear hcz97_0
                        try clear hcz97_1
                        try clear hcz97_2
                        try clear hcz97_3
                        try clear hcz99_0
                        try clear hcz99_1
                        try clear hcz99_2
                        try clear hcz99_3
                        try clear hfz108_0
                        try clear hfz108_1
                        try clear hfz108_2
                        try clear hfz108_3
                        try clear hfz110_0
                        try clear hfz110_1
                        try clear hfz110_2
                        try clear hfz110_3
                        try clear hfz114_0
                        try clear hfz114_1
                        try clear hfz114_2
                        try clear hfz114_3
                        try clear hfz123_0
                        try clear hfz123_1
                        try clear hfz123_2
                        try clear hfz123_3
                        try clear hfz131_0
                        try clear hfz131_1
                        try clear hfz131_2
                        try clear hfz131_3
                        try clear hfz135_0
                        try clear hfz135_1
                        try clear hfz135_2
                        try clear hfz135_3
                        try clear hfz141_0
                        try clear hfz141_1
                        try clear hfz141_2
                        try clear hfz141_3
                        try clear hfz145_0
                        try clear hfz145_1
                        try clear hfz145_2
                        try clear hfz145_3
                        try clear hfz14_0
                        try clear hfz14_1
                        try clear hfz14_2
                        try clear hfz14_3
                        try clear hfz16_0
                        try clear hfz16_1
                        try clear hfz16_2
                        try clear hfz16_3
                        try clear hfz22_0
                        try clear hfz22_1
                        try clear hfz22_2
                        try clear hfz22_3
                        try clear hfz24_0
                        try clear hfz24_1
                        try clear hfz24_2
                        try clear hfz24_3
                        try clear hfz29_0
                        try clear hfz29_1
                        try clear hfz29_2
                        try clear hfz29_3
                        try clear hfz36_0
                        try clear hfz36_1
                        try clear hfz36_2
                        try clear hfz36_3
                        try clear hfz43_0
                        try clear hfz43_1
                        try clear hfz43_2
                        try clear hfz43_3
                        try clear hfz46_0
                        try clear hfz46_1
                        try clear hfz46_2
                        try clear hfz46_3
                        try clear hfz51_0
                        try clear hfz51_1
                        try clear hfz51_2
                        try clear hfz51_3
                        try clear hfz54_0
                        try clear hfz54_1
                        try clear hfz54_2
                        try clear hfz54_3
                        try clear hfz69_0
                        try clear hfz69_1
                        try clear hfz69_2
                        try clear hfz69_3
                        try clear hfz6_0
                        try clear hfz6_1
                        try clear hfz6_2
                        try clear hfz6_3
                        try clear hfz77_0
                        try clear hfz77_1
                        try clear hfz77_2
                        try clear hfz77_3
                        try clear hfz80_0
                        try clear hfz80_1
                        try clear hfz80_2
                        try clear hfz80_3
                        try clear hfz85_0
                        try clear hfz85_1
                        try clear hfz85_2
                        try clear hfz85_3
                        try clear hfz88_0
                        try clear hfz88_1
                        try clear hfz88_2
                        try clear hfz88_3
                        try clear hfz97_0
                        try clear hfz97_1
                        try clear hfz97_2
                        try clear hfz97_3
                        try clear hfz99_0
                        try clear hfz99_1
                        try clear hfz99_2
                        try clear hfz99_3
                        try clear p2
                        obtain ⟨kq, x92_103, rfl, HA, HJ103, HO_236003, HO_243003, HO_251003, HO_279003, BK220, BK235, BK242, BK250, BK278, HB⟩ := hcut
                        have hl251003_103 := (Kd.R_reads' HO_251003.out).1
                        rw [hl251003_103] at HO_251003
                        (try simp only [hl251003_103])
                        (try simp only [hl251003_103] at BK220)
                        (try simp only [hl251003_103] at BK235)
                        (try simp only [hl251003_103] at BK242)
                        (try simp only [hl251003_103] at BK250)
                        (try simp only [hl251003_103] at BK278)
                        (try simp only [hl251003_103] at HO_236003)
                        (try simp only [hl251003_103] at HO_243003)
                        (try simp only [hl251003_103] at HO_279003)
                        cases kq with
                        | zero => exact absurd HA.out (by simp [laws_FnExactTableCap.j2])
                        | succ kj103 =>
                          have H := HA.out
                          clear HA
                          simp only [laws_FnExactTableCap.j2] at H
                          by_cases c147 : x92_103 = true
                          · subst c147
                            have H1 : (some false) = some r := by rw [if_pos rfl] at H; exact H
                            clear H
                            have H := H1
                            clear H1
                            obtain rfl := Option.some.inj H
                            go_wp2
                            go_ret
                            exact ⟨by first | rfl | (simp [errW_none, errW_some] <;> rfl) | (simp [*, errW_none, errW_some] <;> rfl), by repeat (first | (with_reducible first | exact HB.out | apply below_alloc | apply pw_below_drewN | apply below_drew1 | refine below_set ?_ GE220.out | refine below_set ?_ GE235.out | refine below_set ?_ GE242.out | refine below_set ?_ GE250.out | refine below_set ?_ GE278.out) | exact HB.out)⟩
                          · replace c147 := Bool.eq_false_iff.mpr c147
                            subst c147
                            have H1 : ((laws_heldTable.f kj103 t243 t244 t245 t263 1).bind fun t280 => (if t280 < 0 then (some false) else (if t280 = t262 then (some true) else (some false)))) = some r := by rw [if_neg (show ¬ (false = true) by decide)] at H; exact H
                            clear H
                            have H := H1
                            clear H1
                            replace H := Option.bind_eq_some_iff.mp H
                            obtain ⟨t280, A1480, H⟩ := H
                            replace H : (if t280 < 0 then (some false) else (if t280 = t262 then (some true) else (some false))) = some r := H
                            have A148 := Aside0.mk A1480
                            clear A1480
                            by_cases c149 : t280 < 0
                            · rw [if_pos c149] at H
                              have c149b0 : decide (t280 < 0) = true := decide_eq_true c149
                              clear c149
                              obtain rfl := Option.some.inj H
                              have hnb150 := NB250_220.out
                              have hnc150 := NB220_250.out
                              have hnb151 := NB250_235.out
                              have hnc151 := NB235_250.out
                              have hnb152 := NB250_242.out
                              have hnc152 := NB242_250.out
                              have hnb153 := NB250_278.out
                              have hnc153 := NB278_250.out
                              have hcz154_0 : wc.cell? ⟨gb250, 0, none⟩ = some (.int .i64 t243) := (blk_cell BK250.out 0).trans rfl
                              have hcz154_1 : wc.cell? ⟨gb250, 1, none⟩ = some (.int .i64 t244) := (blk_cell BK250.out 1).trans rfl
                              have hcz154_2 : wc.cell? ⟨gb250, 2, none⟩ = some (.int .i64 t245) := (blk_cell BK250.out 2).trans rfl
                              have hcz154_3 : wc.cell? ⟨gb250, 3, none⟩ = some (.slice Ao37 t263.length co37) := (blk_cell BK250.out 3).trans rfl
                              have hfz154_0 := blk_frozen BK250.out 0
                              have hfz154_1 := blk_frozen BK250.out 1
                              have hfz154_2 := blk_frozen BK250.out 2
                              have hfz154_3 := blk_frozen BK250.out 3
                              go_wp2_with (first | ((with_reducible refine gate_callee (f := 48) rfl ?_); refine goesL_ (some 95) rfl rfl Try.func48 (by kernel_rfl) rfl #[.agg #[.int .i64 t243, .int .i64 t244, .int .i64 t245, .slice Ao37 t263.length co37], .int .i64 1] rfl (by (try simp only [List.map_toArray, List.map_cons, List.map_nil]); first | done | rfl | (simp only [List.length_drop, List.length_take]; rfl)) ?_; (with_reducible refine (laws_heldTable.calls kj103 t243 t244 t245 _ _ t263 1 t280 _ ?side1 ?side2 A148.out).mono ?_); (case side1 => repeat (first | exact (Kd.R_reads' HO_251003.out).2.2 | (with_reducible refine Kd.C_alloc ?_ _) | (with_reducible refine Kd.C_drewN ?_ _) | (with_reducible refine Kd.C_drew ?_))); (case side2 => exact (Kd.R_reads' HO_251003.out).2.1); rintro e w155 ⟨rfl, hb⟩; refine ⟨_, rfl, ?_⟩; have n0_ := Aside0.mk (Kd.R_below (by (with_reducible repeat (first | apply Kd.R_alloc | apply Kd.R_drewN | apply Kd.R_drew)); exact HO_236003.out) hb); have n1_ := Aside0.mk (Kd.R_below (by (with_reducible repeat (first | apply Kd.R_alloc | apply Kd.R_drewN | apply Kd.R_drew)); exact HO_243003.out) hb); have n2_ := Aside0.mk (Kd.R_below (by (with_reducible repeat (first | apply Kd.R_alloc | apply Kd.R_drewN | apply Kd.R_drew)); exact HO_251003.out) hb); have n3_ := Aside0.mk (Kd.R_below (by (with_reducible repeat (first | apply Kd.R_alloc | apply Kd.R_drewN | apply Kd.R_drew)); exact HO_279003.out) hb); have n4_ := Aside0.mk (blk_below (g := gb220) (o := .cells #[.int .i64 a0_0, .int .i64 a0_1, .int .i64 a0_2, .slice A0_3 l0_3.length c0_3] 64 (0, 0)) (by (with_reducible repeat (first | refine blk_drewN ?_ _ | refine blk_drew ?_ | refine blk_alloc ?_ _)); exact BK220.out) hb); have n5_ := Aside0.mk (blk_below (g := gb235) (o := .cells #[.int .i64 t228, .int .i64 t229, .int .i64 t230, .slice Ao23 t231.length co23] 69 (0, 0)) (by (with_reducible repeat (first | refine blk_drewN ?_ _ | refine blk_drew ?_ | refine blk_alloc ?_ _)); exact BK235.out) hb); have n6_ := Aside0.mk (blk_below (g := gb242) (o := .cells #[.int .i64 t236, .int .i64 t237, .int .i64 t238, .slice Ao30 t260.length co30] 69 (0, 0)) (by (with_reducible repeat (first | refine blk_drewN ?_ _ | refine blk_drew ?_ | refine blk_alloc ?_ _)); exact BK242.out) hb); have n7_ := Aside0.mk (blk_below (g := gb250) (o := .cells #[.int .i64 t243, .int .i64 t244, .int .i64 t245, .slice Ao37 t263.length co37] 69 (0, 0)) (by (with_reducible repeat (first | refine blk_drewN ?_ _ | refine blk_drew ?_ | refine blk_alloc ?_ _)); exact BK250.out) hb); have n8_ := Aside0.mk (blk_below (g := gb278) (o := .cells #[.int .i64 t271, .int .i64 t272, .int .i64 t273, .slice Ao124 t274.length co124] 69 (0, 0)) (by (with_reducible repeat (first | refine blk_drewN ?_ _ | refine blk_drew ?_ | refine blk_alloc ?_ _)); exact BK278.out) hb); have n9_ := Aside0.mk (below_step (by repeat (first | (with_reducible first | exact HB.out | apply below_alloc | apply pw_below_drewN | apply below_drew1 | refine below_set ?_ GE220.out | refine below_set ?_ GE235.out | refine below_set ?_ GE242.out | refine below_set ?_ GE250.out | refine below_set ?_ GE278.out) | exact HB.out)) hb); clear HO_236003; clear HO_243003; clear HO_251003; clear HO_279003; clear BK220; clear BK235; clear BK242; clear BK250; clear BK278; clear HB; have HO_236003 := n0_; have HO_243003 := n1_; have HO_251003 := n2_; have HO_279003 := n3_; have BK220 := n4_; have BK235 := n5_; have BK242 := n6_; have BK250 := n7_; have BK278 := n8_; have HB := n9_; clear n0_ n1_ n2_ n3_ n4_ n5_ n6_ n7_ n8_ n9_; (try clear hb); (try clear hb2); (try clear hk); (try clear hi)))
                              go_ret
                              exact ⟨by first | rfl | (simp [errW_none, errW_some] <;> rfl) | (simp [*, errW_none, errW_some] <;> rfl), by repeat (first | (with_reducible first | exact HB.out | apply below_alloc | apply pw_below_drewN | apply below_drew1 | refine below_set ?_ GE220.out | refine below_set ?_ GE235.out | refine below_set ?_ GE242.out | refine below_set ?_ GE250.out | refine below_set ?_ GE278.out) | exact HB.out)⟩
                            · rw [if_neg c149] at H
                              have c149b0 : decide (t280 < 0) = false := decide_eq_false c149
                              clear c149
                              by_cases c156 : t280 = t262
                              · rw [if_pos c156] at H
                                have c156b0 : (t280 == t262) = true := beq_iff_eq.mpr c156
                                have c156b1 : (t280 != t262) = false := bne_eq_false_iff_eq.mpr c156
                                clear c156
                                obtain rfl := Option.some.inj H
                                have hnb157 := NB250_220.out
                                have hnc157 := NB220_250.out
                                have hnb158 := NB250_235.out
                                have hnc158 := NB235_250.out
                                have hnb159 := NB250_242.out
                                have hnc159 := NB242_250.out
                                have hnb160 := NB250_278.out
                                have hnc160 := NB278_250.out
                                have hcz161_0 : wc.cell? ⟨gb250, 0, none⟩ = some (.int .i64 t243) := (blk_cell BK250.out 0).trans rfl
                                have hcz161_1 : wc.cell? ⟨gb250, 1, none⟩ = some (.int .i64 t244) := (blk_cell BK250.out 1).trans rfl
                                have hcz161_2 : wc.cell? ⟨gb250, 2, none⟩ = some (.int .i64 t245) := (blk_cell BK250.out 2).trans rfl
                                have hcz161_3 : wc.cell? ⟨gb250, 3, none⟩ = some (.slice Ao37 t263.length co37) := (blk_cell BK250.out 3).trans rfl
                                have hfz161_0 := blk_frozen BK250.out 0
                                have hfz161_1 := blk_frozen BK250.out 1
                                have hfz161_2 := blk_frozen BK250.out 2
                                have hfz161_3 := blk_frozen BK250.out 3
                                go_wp2_with (first | ((with_reducible refine gate_callee (f := 48) rfl ?_); refine goesL_ (some 95) rfl rfl Try.func48 (by kernel_rfl) rfl #[.agg #[.int .i64 t243, .int .i64 t244, .int .i64 t245, .slice Ao37 t263.length co37], .int .i64 1] rfl (by (try simp only [List.map_toArray, List.map_cons, List.map_nil]); first | done | rfl | (simp only [List.length_drop, List.length_take]; rfl)) ?_; (with_reducible refine (laws_heldTable.calls kj103 t243 t244 t245 _ _ t263 1 t280 _ ?side1 ?side2 A148.out).mono ?_); (case side1 => repeat (first | exact (Kd.R_reads' HO_251003.out).2.2 | (with_reducible refine Kd.C_alloc ?_ _) | (with_reducible refine Kd.C_drewN ?_ _) | (with_reducible refine Kd.C_drew ?_))); (case side2 => exact (Kd.R_reads' HO_251003.out).2.1); rintro e w162 ⟨rfl, hb⟩; refine ⟨_, rfl, ?_⟩; have n0_ := Aside0.mk (Kd.R_below (by (with_reducible repeat (first | apply Kd.R_alloc | apply Kd.R_drewN | apply Kd.R_drew)); exact HO_236003.out) hb); have n1_ := Aside0.mk (Kd.R_below (by (with_reducible repeat (first | apply Kd.R_alloc | apply Kd.R_drewN | apply Kd.R_drew)); exact HO_243003.out) hb); have n2_ := Aside0.mk (Kd.R_below (by (with_reducible repeat (first | apply Kd.R_alloc | apply Kd.R_drewN | apply Kd.R_drew)); exact HO_251003.out) hb); have n3_ := Aside0.mk (Kd.R_below (by (with_reducible repeat (first | apply Kd.R_alloc | apply Kd.R_drewN | apply Kd.R_drew)); exact HO_279003.out) hb); have n4_ := Aside0.mk (blk_below (g := gb220) (o := .cells #[.int .i64 a0_0, .int .i64 a0_1, .int .i64 a0_2, .slice A0_3 l0_3.length c0_3] 64 (0, 0)) (by (with_reducible repeat (first | refine blk_drewN ?_ _ | refine blk_drew ?_ | refine blk_alloc ?_ _)); exact BK220.out) hb); have n5_ := Aside0.mk (blk_below (g := gb235) (o := .cells #[.int .i64 t228, .int .i64 t229, .int .i64 t230, .slice Ao23 t231.length co23] 69 (0, 0)) (by (with_reducible repeat (first | refine blk_drewN ?_ _ | refine blk_drew ?_ | refine blk_alloc ?_ _)); exact BK235.out) hb); have n6_ := Aside0.mk (blk_below (g := gb242) (o := .cells #[.int .i64 t236, .int .i64 t237, .int .i64 t238, .slice Ao30 t260.length co30] 69 (0, 0)) (by (with_reducible repeat (first | refine blk_drewN ?_ _ | refine blk_drew ?_ | refine blk_alloc ?_ _)); exact BK242.out) hb); have n7_ := Aside0.mk (blk_below (g := gb250) (o := .cells #[.int .i64 t243, .int .i64 t244, .int .i64 t245, .slice Ao37 t263.length co37] 69 (0, 0)) (by (with_reducible repeat (first | refine blk_drewN ?_ _ | refine blk_drew ?_ | refine blk_alloc ?_ _)); exact BK250.out) hb); have n8_ := Aside0.mk (blk_below (g := gb278) (o := .cells #[.int .i64 t271, .int .i64 t272, .int .i64 t273, .slice Ao124 t274.length co124] 69 (0, 0)) (by (with_reducible repeat (first | refine blk_drewN ?_ _ | refine blk_drew ?_ | refine blk_alloc ?_ _)); exact BK278.out) hb); have n9_ := Aside0.mk (below_step (by repeat (first | (with_reducible first | exact HB.out | apply below_alloc | apply pw_below_drewN | apply below_drew1 | refine below_set ?_ GE220.out | refine below_set ?_ GE235.out | refine below_set ?_ GE242.out | refine below_set ?_ GE250.out | refine below_set ?_ GE278.out) | exact HB.out)) hb); clear HO_236003; clear HO_243003; clear HO_251003; clear HO_279003; clear BK220; clear BK235; clear BK242; clear BK250; clear BK278; clear HB; have HO_236003 := n0_; have HO_243003 := n1_; have HO_251003 := n2_; have HO_279003 := n3_; have BK220 := n4_; have BK235 := n5_; have BK242 := n6_; have BK250 := n7_; have BK278 := n8_; have HB := n9_; clear n0_ n1_ n2_ n3_ n4_ n5_ n6_ n7_ n8_ n9_; (try clear hb); (try clear hb2); (try clear hk); (try clear hi)))
                                go_ret
                                exact ⟨by first | rfl | (simp [errW_none, errW_some] <;> rfl) | (simp [*, errW_none, errW_some] <;> rfl), by repeat (first | (with_reducible first | exact HB.out | apply below_alloc | apply pw_below_drewN | apply below_drew1 | refine below_set ?_ GE220.out | refine below_set ?_ GE235.out | refine below_set ?_ GE242.out | refine below_set ?_ GE250.out | refine below_set ?_ GE278.out) | exact HB.out)⟩
                              · rw [if_neg c156] at H
                                have c156b0 : (t280 == t262) = false := beq_eq_false_iff_ne.mpr c156
                                have c156b1 : (t280 != t262) = true := bne_iff_ne.mpr c156
                                obtain rfl := Option.some.inj H
                                have hnb163 := NB250_220.out
                                have hnc163 := NB220_250.out
                                have hnb164 := NB250_235.out
                                have hnc164 := NB235_250.out
                                have hnb165 := NB250_242.out
                                have hnc165 := NB242_250.out
                                have hnb166 := NB250_278.out
                                have hnc166 := NB278_250.out
                                have hcz167_0 : wc.cell? ⟨gb250, 0, none⟩ = some (.int .i64 t243) := (blk_cell BK250.out 0).trans rfl
                                have hcz167_1 : wc.cell? ⟨gb250, 1, none⟩ = some (.int .i64 t244) := (blk_cell BK250.out 1).trans rfl
                                have hcz167_2 : wc.cell? ⟨gb250, 2, none⟩ = some (.int .i64 t245) := (blk_cell BK250.out 2).trans rfl
                                have hcz167_3 : wc.cell? ⟨gb250, 3, none⟩ = some (.slice Ao37 t263.length co37) := (blk_cell BK250.out 3).trans rfl
                                have hfz167_0 := blk_frozen BK250.out 0
                                have hfz167_1 := blk_frozen BK250.out 1
                                have hfz167_2 := blk_frozen BK250.out 2
                                have hfz167_3 := blk_frozen BK250.out 3
                                go_wp2_with (first | ((with_reducible refine gate_callee (f := 48) rfl ?_); refine goesL_ (some 95) rfl rfl Try.func48 (by kernel_rfl) rfl #[.agg #[.int .i64 t243, .int .i64 t244, .int .i64 t245, .slice Ao37 t263.length co37], .int .i64 1] rfl (by (try simp only [List.map_toArray, List.map_cons, List.map_nil]); first | done | rfl | (simp only [List.length_drop, List.length_take]; rfl)) ?_; (with_reducible refine (laws_heldTable.calls kj103 t243 t244 t245 _ _ t263 1 t280 _ ?side1 ?side2 A148.out).mono ?_); (case side1 => repeat (first | exact (Kd.R_reads' HO_251003.out).2.2 | (with_reducible refine Kd.C_alloc ?_ _) | (with_reducible refine Kd.C_drewN ?_ _) | (with_reducible refine Kd.C_drew ?_))); (case side2 => exact (Kd.R_reads' HO_251003.out).2.1); rintro e w168 ⟨rfl, hb⟩; refine ⟨_, rfl, ?_⟩; have n0_ := Aside0.mk (Kd.R_below (by (with_reducible repeat (first | apply Kd.R_alloc | apply Kd.R_drewN | apply Kd.R_drew)); exact HO_236003.out) hb); have n1_ := Aside0.mk (Kd.R_below (by (with_reducible repeat (first | apply Kd.R_alloc | apply Kd.R_drewN | apply Kd.R_drew)); exact HO_243003.out) hb); have n2_ := Aside0.mk (Kd.R_below (by (with_reducible repeat (first | apply Kd.R_alloc | apply Kd.R_drewN | apply Kd.R_drew)); exact HO_251003.out) hb); have n3_ := Aside0.mk (Kd.R_below (by (with_reducible repeat (first | apply Kd.R_alloc | apply Kd.R_drewN | apply Kd.R_drew)); exact HO_279003.out) hb); have n4_ := Aside0.mk (blk_below (g := gb220) (o := .cells #[.int .i64 a0_0, .int .i64 a0_1, .int .i64 a0_2, .slice A0_3 l0_3.length c0_3] 64 (0, 0)) (by (with_reducible repeat (first | refine blk_drewN ?_ _ | refine blk_drew ?_ | refine blk_alloc ?_ _)); exact BK220.out) hb); have n5_ := Aside0.mk (blk_below (g := gb235) (o := .cells #[.int .i64 t228, .int .i64 t229, .int .i64 t230, .slice Ao23 t231.length co23] 69 (0, 0)) (by (with_reducible repeat (first | refine blk_drewN ?_ _ | refine blk_drew ?_ | refine blk_alloc ?_ _)); exact BK235.out) hb); have n6_ := Aside0.mk (blk_below (g := gb242) (o := .cells #[.int .i64 t236, .int .i64 t237, .int .i64 t238, .slice Ao30 t260.length co30] 69 (0, 0)) (by (with_reducible repeat (first | refine blk_drewN ?_ _ | refine blk_drew ?_ | refine blk_alloc ?_ _)); exact BK242.out) hb); have n7_ := Aside0.mk (blk_below (g := gb250) (o := .cells #[.int .i64 t243, .int .i64 t244, .int .i64 t245, .slice Ao37 t263.length co37] 69 (0, 0)) (by (with_reducible repeat (first | refine blk_drewN ?_ _ | refine blk_drew ?_ | refine blk_alloc ?_ _)); exact BK250.out) hb); have n8_ := Aside0.mk (blk_below (g := gb278) (o := .cells #[.int .i64 t271, .int .i64 t272, .int .i64 t273, .slice Ao124 t274.length co124] 69 (0, 0)) (by (with_reducible repeat (first | refine blk_drewN ?_ _ | refine blk_drew ?_ | refine blk_alloc ?_ _)); exact BK278.out) hb); have n9_ := Aside0.mk (below_step (by repeat (first | (with_reducible first | exact HB.out | apply below_alloc | apply pw_below_drewN | apply below_drew1 | refine below_set ?_ GE220.out | refine below_set ?_ GE235.out | refine below_set ?_ GE242.out | refine below_set ?_ GE250.out | refine below_set ?_ GE278.out) | exact HB.out)) hb); clear HO_236003; clear HO_243003; clear HO_251003; clear HO_279003; clear BK220; clear BK235; clear BK242; clear BK250; clear BK278; clear HB; have HO_236003 := n0_; have HO_243003 := n1_; have HO_251003 := n2_; have HO_279003 := n3_; have BK220 := n4_; have BK235 := n5_; have BK242 := n6_; have BK250 := n7_; have BK278 := n8_; have HB := n9_; clear n0_ n1_ n2_ n3_ n4_ n5_ n6_ n7_ n8_ n9_; (try clear hb); (try clear hb2); (try clear hk); (try clear hi)))
                                go_ret
                                exact ⟨by first | rfl | (simp [errW_none, errW_some] <;> rfl) | (simp [*, errW_none, errW_some] <;> rfl), by repeat (first | (with_reducible first | exact HB.out | apply below_alloc | apply pw_below_drewN | apply below_drew1 | refine below_set ?_ GE220.out | refine below_set ?_ GE235.out | refine below_set ?_ GE242.out | refine below_set ?_ GE250.out | refine below_set ?_ GE278.out) | exact HB.out)⟩
                    · rw [if_neg c101] at H
                      have c101b0 : (t264 == t262) = false := beq_eq_false_iff_ne.mpr c101
                      have c101b1 : (t264 != t262) = true := bne_iff_ne.mpr c101
                      obtain rfl := Option.some.inj H
                      have hnb169 := NB250_220.out
                      have hnc169 := NB220_250.out
                      have hnb170 := NB250_235.out
                      have hnc170 := NB235_250.out
                      have hnb171 := NB250_242.out
                      have hnc171 := NB242_250.out
                      have hcz172_0 : wc.cell? ⟨gb250, 0, none⟩ = some (.int .i64 t243) := (blk_cell BK250.out 0).trans rfl
                      have hcz172_1 : wc.cell? ⟨gb250, 1, none⟩ = some (.int .i64 t244) := (blk_cell BK250.out 1).trans rfl
                      have hcz172_2 : wc.cell? ⟨gb250, 2, none⟩ = some (.int .i64 t245) := (blk_cell BK250.out 2).trans rfl
                      have hcz172_3 : wc.cell? ⟨gb250, 3, none⟩ = some (.slice Ao37 t246.length co37) := (blk_cell BK250.out 3).trans rfl
                      have hfz172_0 := blk_frozen BK250.out 0
                      have hfz172_1 := blk_frozen BK250.out 1
                      have hfz172_2 := blk_frozen BK250.out 2
                      have hfz172_3 := blk_frozen BK250.out 3
                      go_wp2_with (first | ((with_reducible refine gate_callee (f := 47) rfl ?_); refine goesL_ (some 68) rfl rfl Try.func47 (by kernel_rfl) rfl #[.agg #[.int .i64 t243, .int .i64 t244, .int .i64 t245, .slice Ao37 t246.length co37], .int .i64 1] rfl (by (try simp only [List.map_toArray, List.map_cons, List.map_nil]); first | done | rfl | (simp only [List.length_drop, List.length_take]; rfl)) ?_; (with_reducible refine (laws_markTable.calls kj60 t243 t244 t245 (fun k_ => some k_ = (.slice Ao37 t246.length co37 : Value).ownBlock) (.slice Ao37 t246.length co37) t246 1 t262 t263 w _ ?side1 ?side2 A91.out).mono ?_); (case side1 => repeat (first | (with_reducible first | exact HB.out | apply below_alloc | apply pw_below_drewN | apply below_drew1 | refine below_set ?_ GE220.out | refine below_set ?_ GE235.out | refine below_set ?_ GE242.out | refine below_set ?_ GE250.out) | exact HB.out)); (case side2 => exact Kd.R_tight rfl HO_251003.out); rintro e w173 ⟨rfl, hy0, hb, hkp⟩; refine ⟨_, rfl, ?_⟩; have n0_ := Aside0.mk (Kd.R_mono (ok' := fun k_ => some k_ ≠ (.slice Ao30 t260.length co30 : Value).ownBlock ∧ some k_ ≠ (.slice Ao37 t246.length co37 : Value).ownBlock) (Kd.R_keptB (HO_236003.out) hkp (fun k_ hk_ hs_ => (hk_.2) hs_)) (fun k_ hk_ => ⟨hk_.1.1, hk_.1.2⟩)); have n1_ := Aside0.mk (Kd.R_mono (ok' := fun k_ => some k_ ≠ (.slice Ao23 t231.length co23 : Value).ownBlock ∧ some k_ ≠ (.slice Ao37 t246.length co37 : Value).ownBlock) (Kd.R_keptB (HO_243003.out) hkp (fun k_ hk_ hs_ => (hk_.2) hs_)) (fun k_ hk_ => ⟨hk_.1.1, hk_.1.2⟩)); have n2_ := Aside0.mk (Kd.R_reok rfl hy0 (fun k_ e_ => HO_251003.out.1 k_ e_)); have n3_ := Aside0.mk (blk_kept (by (with_reducible repeat (first | refine blk_drewN ?_ _ | refine blk_drew ?_ | refine blk_alloc ?_ _)); exact BK220.out) hkp (fun hs_ => (fun e_ => (Kd.R_ne HO_251003.out BK220.out (by decide)) e_) hs_)); have n4_ := Aside0.mk (blk_kept (by (with_reducible repeat (first | refine blk_drewN ?_ _ | refine blk_drew ?_ | refine blk_alloc ?_ _)); exact BK235.out) hkp (fun hs_ => (fun e_ => (Kd.R_ne HO_251003.out BK235.out (by decide)) e_) hs_)); have n5_ := Aside0.mk (blk_kept (by (with_reducible repeat (first | refine blk_drewN ?_ _ | refine blk_drew ?_ | refine blk_alloc ?_ _)); exact BK242.out) hkp (fun hs_ => (fun e_ => (Kd.R_ne HO_251003.out BK242.out (by decide)) e_) hs_)); have n6_ := Aside0.mk (blk_kept (by (with_reducible repeat (first | refine blk_drewN ?_ _ | refine blk_drew ?_ | refine blk_alloc ?_ _)); exact BK250.out) hkp (fun hs_ => (fun e_ => (Kd.R_ne HO_251003.out BK250.out (by decide)) e_) hs_)); have n7_ := Aside0.mk (hb); clear HO_236003; clear HO_243003; clear HO_251003; clear BK220; clear BK235; clear BK242; clear BK250; clear HB; have HO_236003 := n0_; have HO_243003 := n1_; have HO_251003 := n2_; have BK220 := n3_; have BK235 := n4_; have BK242 := n5_; have BK250 := n6_; have HB := n7_; clear n0_ n1_ n2_ n3_ n4_ n5_ n6_ n7_; (try clear hb); (try clear hkp); (try clear hy0); have hcz174_0 : w173.cell? ⟨gb250, 0, none⟩ = some (.int .i64 t243) := (blk_cell BK250.out 0).trans rfl; have hcz174_1 : w173.cell? ⟨gb250, 1, none⟩ = some (.int .i64 t244) := (blk_cell BK250.out 1).trans rfl; have hcz174_2 : w173.cell? ⟨gb250, 2, none⟩ = some (.int .i64 t245) := (blk_cell BK250.out 2).trans rfl; have hcz174_3 : w173.cell? ⟨gb250, 3, none⟩ = some (.slice Ao37 t246.length co37) := (blk_cell BK250.out 3).trans rfl; have hfz174_0 := blk_frozen BK250.out 0; have hfz174_1 := blk_frozen BK250.out 1; have hfz174_2 := blk_frozen BK250.out 2; have hfz174_3 := blk_frozen BK250.out 3) | ((with_reducible refine gate_callee (f := 48) rfl ?_); refine goesL_ (some 71) rfl rfl Try.func48 (by kernel_rfl) rfl #[.agg #[.int .i64 t243, .int .i64 t244, .int .i64 t245, .slice Ao37 t263.length co37], .int .i64 1] rfl (by (try simp only [List.map_toArray, List.map_cons, List.map_nil]); first | done | (rw [show t263.length = t246.length from (Kd.R_reads' HO_251003.out).1.symm] <;> rfl) | rfl | (simp only [List.length_drop, List.length_take]; rfl)) ?_; (with_reducible refine (laws_heldTable.calls kj60 t243 t244 t245 _ _ t263 1 t264 _ ?side1 ?side2 A92.out).mono ?_); (case side1 => repeat (first | exact (Kd.R_reads' HO_251003.out).2.2 | (with_reducible refine Kd.C_alloc ?_ _) | (with_reducible refine Kd.C_drewN ?_ _) | (with_reducible refine Kd.C_drew ?_))); (case side2 => rw [show t263.length = t246.length from (Kd.R_reads' HO_251003.out).1.symm]; exact (Kd.R_reads' HO_251003.out).2.1); rintro e w175 ⟨rfl, hb⟩; refine ⟨_, rfl, ?_⟩; have n0_ := Aside0.mk (Kd.R_below (by (with_reducible repeat (first | apply Kd.R_alloc | apply Kd.R_drewN | apply Kd.R_drew)); exact HO_236003.out) hb); have n1_ := Aside0.mk (Kd.R_below (by (with_reducible repeat (first | apply Kd.R_alloc | apply Kd.R_drewN | apply Kd.R_drew)); exact HO_243003.out) hb); have n2_ := Aside0.mk (Kd.R_below (by (with_reducible repeat (first | apply Kd.R_alloc | apply Kd.R_drewN | apply Kd.R_drew)); exact HO_251003.out) hb); have n3_ := Aside0.mk (blk_below (g := gb220) (o := .cells #[.int .i64 a0_0, .int .i64 a0_1, .int .i64 a0_2, .slice A0_3 l0_3.length c0_3] 64 (0, 0)) (by (with_reducible repeat (first | refine blk_drewN ?_ _ | refine blk_drew ?_ | refine blk_alloc ?_ _)); exact BK220.out) hb); have n4_ := Aside0.mk (blk_below (g := gb235) (o := .cells #[.int .i64 t228, .int .i64 t229, .int .i64 t230, .slice Ao23 t231.length co23] 69 (0, 0)) (by (with_reducible repeat (first | refine blk_drewN ?_ _ | refine blk_drew ?_ | refine blk_alloc ?_ _)); exact BK235.out) hb); have n5_ := Aside0.mk (blk_below (g := gb242) (o := .cells #[.int .i64 t236, .int .i64 t237, .int .i64 t238, .slice Ao30 t260.length co30] 69 (0, 0)) (by (with_reducible repeat (first | refine blk_drewN ?_ _ | refine blk_drew ?_ | refine blk_alloc ?_ _)); exact BK242.out) hb); have n6_ := Aside0.mk (blk_below (g := gb250) (o := .cells #[.int .i64 t243, .int .i64 t244, .int .i64 t245, .slice Ao37 t246.length co37] 69 (0, 0)) (by (with_reducible repeat (first | refine blk_drewN ?_ _ | refine blk_drew ?_ | refine blk_alloc ?_ _)); exact BK250.out) hb); have n7_ := Aside0.mk (below_step (by repeat (first | (with_reducible first | exact HB.out | apply below_alloc | apply pw_below_drewN | apply below_drew1 | refine below_set ?_ GE220.out | refine below_set ?_ GE235.out | refine below_set ?_ GE242.out | refine below_set ?_ GE250.out) | exact HB.out)) hb); clear HO_236003; clear HO_243003; clear HO_251003; clear BK220; clear BK235; clear BK242; clear BK250; clear HB; have HO_236003 := n0_; have HO_243003 := n1_; have HO_251003 := n2_; have BK220 := n3_; have BK235 := n4_; have BK242 := n5_; have BK250 := n6_; have HB := n7_; clear n0_ n1_ n2_ n3_ n4_ n5_ n6_ n7_; (try clear hb); (try clear hb2); (try clear hk); (try clear hi)))
                      go_ret
                      exact ⟨by first | rfl | (simp [errW_none, errW_some] <;> rfl) | (simp [*, errW_none, errW_some] <;> rfl), by repeat (first | (with_reducible first | exact HB.out | apply below_alloc | apply pw_below_drewN | apply below_drew1 | refine below_set ?_ GE220.out | refine below_set ?_ GE235.out | refine below_set ?_ GE242.out | refine below_set ?_ GE250.out) | exact HB.out)⟩
          · replace c59 := Bool.eq_false_iff.mpr c59
            subst c59
            have H1 : (some false) = some r := by rw [if_neg (show ¬ (false = true) by decide)] at H; exact H
            clear H
            have H := H1
            clear H1
            obtain rfl := Option.some.inj H
            try go_wp2
            have n0_ := Aside0.mk (Kd.R_drew HO_236003.out)
            have n1_ := Aside0.mk (Kd.R_drew HO_243003.out)
            have n2_ := Aside0.mk (Kd.R_drew HO_251003.out)
            have n3_ := Aside0.mk (blk_drew BK220.out)
            have n4_ := Aside0.mk (blk_drew BK235.out)
            have n5_ := Aside0.mk (blk_drew BK242.out)
            have n6_ := Aside0.mk (blk_drew BK250.out)
            have n7_ := Aside0.mk (below_drew1 HB.out)
            clear HO_236003
            clear HO_243003
            clear HO_251003
            clear BK220
            clear BK235
            clear BK242
            clear BK250
            clear HB
            have HO_236003 := n0_
            have HO_243003 := n1_
            have HO_251003 := n2_
            have BK220 := n3_
            have BK235 := n4_
            have BK242 := n5_
            have BK250 := n6_
            have HB := n7_
            clear n0_ n1_ n2_ n3_ n4_ n5_ n6_ n7_
            refine start_ (n := 5) (S := fun w' => w'.cell? ⟨gb242, 0, none⟩ = some (.int .i64 t236) ∧ w'.cell? ⟨gb242, 1, none⟩ = some (.int .i64 t237) ∧ w'.cell? ⟨gb242, 2, none⟩ = some (.int .i64 t238) ∧ w'.cell? ⟨gb242, 3, none⟩ = some (.slice Ao30 t239.length co30) ∧ w'.cell? ⟨gb220, 0, none⟩ = some (.int .i64 a0_0) ∧ w'.cell? ⟨gb220, 1, none⟩ = some (.int .i64 a0_1) ∧ w'.cell? ⟨gb220, 2, none⟩ = some (.int .i64 a0_2) ∧ w'.cell? ⟨gb220, 3, none⟩ = some (.slice A0_3 l0_3.length c0_3)) (ds := []) #[false, false, false, false, false] (by kernel_rfl) rfl rfl ⟨(blk_cell BK242.out 0).trans rfl, (blk_cell BK242.out 1).trans rfl, (blk_cell BK242.out 2).trans rfl, (blk_cell BK242.out 3).trans rfl, (blk_cell BK220.out 0).trans rfl, (blk_cell BK220.out 1).trans rfl, (blk_cell BK220.out 2).trans rfl, (blk_cell BK220.out 3).trans rfl⟩ (fun hHeld => ?_)
            generalize wc.drew = w176 at HO_236003 HO_243003 HO_251003 BK220 BK235 BK242 BK250 HB hHeld ⊢
            refine take_ (i := 0) (N := some 45) (v := ?_) (a' := ?_) #[true, false, false, false, false] rfl rfl (by kernel_rfl) (fun _ _ _ h => h) (Or.inl ⟨by rfl, ?_⟩) hHeld ?_ ?_
            rotate_left
            · rintro w' ⟨s0, s1, s2, s3, s4, s5, s6, s7⟩
              go_simp
              with_reducible rfl
            rotate_left
            · simp only [Act.put, List.setIfInBounds_toArray, List.set_cons_zero, List.set_cons_succ, i64_w, i32_w]
              rfl
            refine take_ (i := 1) (N := some 46) (v := ?_) (a' := ?_) #[true, true, false, false, false] rfl rfl (by kernel_rfl) (fun _ _ _ h => h) (Or.inl ⟨by rfl, ?_⟩) hHeld ?_ ?_
            rotate_left
            · rintro w' ⟨s0, s1, s2, s3, s4, s5, s6, s7⟩
              go_simp
              with_reducible rfl
            rotate_left
            · simp only [Act.put, List.setIfInBounds_toArray, List.set_cons_zero, List.set_cons_succ, i64_w, i32_w]
              rfl
            refine one_ (i := 2) (N := some 47) #[true, true, true, false, false] rfl rfl (by kernel_rfl) (by decide) (fun K hK => ?_)
            refine goes_ Try.func40 (by kernel_rfl) rfl #[.agg #[.int .i64 a0_0, .int .i64 a0_1, .int .i64 a0_2, .slice A0_3 l0_3.length c0_3]] (by rfl) rfl rfl (by (try simp only [List.map_toArray, List.map_cons, List.map_nil]); first | done | rfl | (simp only [List.length_drop, List.length_take]; rfl)) ?_
            with_reducible refine (laws_toTable.calls kj11 a0_0 a0_1 a0_2 _ _ l0_3 t252 t253 t254 t255 _ ?side1 ?side2 A57.out).mono ?_
            (case side1 => repeat (first | exact (Kd.C_below HR0_3.out HB.out) | (with_reducible refine Kd.C_alloc ?_ _) | (with_reducible refine Kd.C_drewN ?_ _) | (with_reducible refine Kd.C_drew ?_)))
            (case side2 => exact HC0_3.out)
            rintro e w177 ⟨v256, rfl, ho0, hb⟩
            refine ⟨_, rfl, ?_⟩
            have n0_ := Aside0.mk (Kd.R_elder' (by (with_reducible repeat (first | apply Kd.R_alloc | apply Kd.R_drewN | apply Kd.R_drew)); exact HO_236003.out) (Kd.R_base ho0) hb)
            have n1_ := Aside0.mk (Kd.R_elder' (by (with_reducible repeat (first | apply Kd.R_alloc | apply Kd.R_drewN | apply Kd.R_drew)); exact HO_243003.out) (Kd.R_base ho0) hb)
            have n2_ := Aside0.mk (Kd.R_elder' (by (with_reducible repeat (first | apply Kd.R_alloc | apply Kd.R_drewN | apply Kd.R_drew)); exact HO_251003.out) (Kd.R_base ho0) hb)
            have n3_ := Aside0.mk (Kd.R_lower (Kd.R_new' (Kd.R_new' (Kd.R_new' ho0 (Kd.R_lt (by (with_reducible repeat (first | apply Kd.R_alloc | apply Kd.R_drewN | apply Kd.R_drew)); exact HO_236003.out))) (Kd.R_lt (by (with_reducible repeat (first | apply Kd.R_alloc | apply Kd.R_drewN | apply Kd.R_drew)); exact HO_243003.out))) (Kd.R_lt (by (with_reducible repeat (first | apply Kd.R_alloc | apply Kd.R_drewN | apply Kd.R_drew)); exact HO_251003.out))) (below_size (by repeat (first | (with_reducible first | exact HB.out | apply below_alloc | apply pw_below_drewN | apply below_drew1 | refine below_set ?_ GE220.out | refine below_set ?_ GE235.out | refine below_set ?_ GE242.out | refine below_set ?_ GE250.out) | exact HB.out))))
            have n4_ := Aside0.mk (blk_below (g := gb220) (o := .cells #[.int .i64 a0_0, .int .i64 a0_1, .int .i64 a0_2, .slice A0_3 l0_3.length c0_3] 64 (0, 0)) (by (with_reducible repeat (first | refine blk_drewN ?_ _ | refine blk_drew ?_ | refine blk_alloc ?_ _)); exact BK220.out) hb)
            have n5_ := Aside0.mk (blk_below (g := gb235) (o := .cells #[.int .i64 t228, .int .i64 t229, .int .i64 t230, .slice Ao23 t231.length co23] 69 (0, 0)) (by (with_reducible repeat (first | refine blk_drewN ?_ _ | refine blk_drew ?_ | refine blk_alloc ?_ _)); exact BK235.out) hb)
            have n6_ := Aside0.mk (blk_below (g := gb242) (o := .cells #[.int .i64 t236, .int .i64 t237, .int .i64 t238, .slice Ao30 t239.length co30] 69 (0, 0)) (by (with_reducible repeat (first | refine blk_drewN ?_ _ | refine blk_drew ?_ | refine blk_alloc ?_ _)); exact BK242.out) hb)
            have n7_ := Aside0.mk (blk_below (g := gb250) (o := .cells #[.int .i64 t243, .int .i64 t244, .int .i64 t245, .slice Ao37 t246.length co37] 69 (0, 0)) (by (with_reducible repeat (first | refine blk_drewN ?_ _ | refine blk_drew ?_ | refine blk_alloc ?_ _)); exact BK250.out) hb)
            have n8_ := Aside0.mk (below_step (by repeat (first | (with_reducible first | exact HB.out | apply below_alloc | apply pw_below_drewN | apply below_drew1 | refine below_set ?_ GE220.out | refine below_set ?_ GE235.out | refine below_set ?_ GE242.out | refine below_set ?_ GE250.out) | exact HB.out)) hb)
            clear HO_236003
            clear HO_243003
            clear HO_251003
            clear BK220
            clear BK235
            clear BK242
            clear BK250
            clear HB
            have HO_236003 := n0_
            have HO_243003 := n1_
            have HO_251003 := n2_
            have HO257 := n3_
            have BK220 := n4_
            have BK235 := n5_
            have BK242 := n6_
            have BK250 := n7_
            have HB := n8_
            clear n0_ n1_ n2_ n3_ n4_ n5_ n6_ n7_ n8_
            (try clear hb)
            (try clear hb2)
            (try clear hk)
            (try clear hi)
            (try clear ho0)
            obtain ⟨Ao178, co178, eo178⟩ := Kd.R_slice HO257.out
            (first | subst eo178 | (injection eo178 with f1_ f2_ f3_; have f4_ := f1_.symm; have f5_ := f3_.symm; clear f1_ f2_ f3_; subst f4_; subst f5_))
            refine hK.out _ _ ⟨(blk_cell BK242.out 0).trans rfl, (blk_cell BK242.out 1).trans rfl, (blk_cell BK242.out 2).trans rfl, (blk_cell BK242.out 3).trans rfl, (blk_cell BK220.out 0).trans rfl, (blk_cell BK220.out 1).trans rfl, (blk_cell BK220.out 2).trans rfl, (blk_cell BK220.out 3).trans rfl⟩ (fun hHeld => ?_)
            clear hK K
            refine norm_ (a' := ?_) ?_ ?_
            rotate_left
            · show Act.put _ (some 47) _ = _
              simp only [Act.put, List.setIfInBounds_toArray, List.set_cons_zero, List.set_cons_succ, i64_w, i32_w]
              rfl
            refine one_ (i := 3) (N := some 48) #[true, true, true, true, false] rfl rfl (by kernel_rfl) (by decide) (fun K hK => ?_)
            refine goes_ Try.func42 (by kernel_rfl) rfl #[.agg #[.int .i64 t236, .int .i64 t237, .int .i64 t238, .slice Ao30 t239.length co30], .agg #[.int .i64 t252, .int .i64 t253, .int .i64 t254, .slice Ao178 t255.length co178]] (by rfl) rfl rfl (by (try simp only [List.map_toArray, List.map_cons, List.map_nil]); first | done | rfl | (simp only [List.length_drop, List.length_take]; rfl)) ?_
            with_reducible refine (laws_eqTable.calls kj11 t236 t237 t238 _ _ t239 t252 t253 t254 _ _ t255 false _ ?side1 ?side2 ?side3 ?side4 A58.out).mono ?_
            (case side1 => repeat (first | exact (Kd.R_reads' HO_243003.out).2.2 | (with_reducible refine Kd.C_alloc ?_ _) | (with_reducible refine Kd.C_drewN ?_ _) | (with_reducible refine Kd.C_drew ?_)))
            (case side2 => exact (Kd.R_reads' HO_243003.out).2.1)
            (case side3 => repeat (first | exact (Kd.R_reads' HO257.out).2.2 | (with_reducible refine Kd.C_alloc ?_ _) | (with_reducible refine Kd.C_drewN ?_ _) | (with_reducible refine Kd.C_drew ?_)))
            (case side4 => exact (Kd.R_reads' HO257.out).2.1)
            rintro e w179 ⟨rfl, hb⟩
            refine ⟨_, rfl, ?_⟩
            have n0_ := Aside0.mk (Kd.R_below (by (with_reducible repeat (first | apply Kd.R_alloc | apply Kd.R_drewN | apply Kd.R_drew)); exact HO_236003.out) hb)
            have n1_ := Aside0.mk (Kd.R_below (by (with_reducible repeat (first | apply Kd.R_alloc | apply Kd.R_drewN | apply Kd.R_drew)); exact HO_243003.out) hb)
            have n2_ := Aside0.mk (Kd.R_below (by (with_reducible repeat (first | apply Kd.R_alloc | apply Kd.R_drewN | apply Kd.R_drew)); exact HO_251003.out) hb)
            have n3_ := Aside0.mk (Kd.R_below (by (with_reducible repeat (first | apply Kd.R_alloc | apply Kd.R_drewN | apply Kd.R_drew)); exact HO257.out) hb)
            have n4_ := Aside0.mk (blk_below (g := gb220) (o := .cells #[.int .i64 a0_0, .int .i64 a0_1, .int .i64 a0_2, .slice A0_3 l0_3.length c0_3] 64 (0, 0)) (by (with_reducible repeat (first | refine blk_drewN ?_ _ | refine blk_drew ?_ | refine blk_alloc ?_ _)); exact BK220.out) hb)
            have n5_ := Aside0.mk (blk_below (g := gb235) (o := .cells #[.int .i64 t228, .int .i64 t229, .int .i64 t230, .slice Ao23 t231.length co23] 69 (0, 0)) (by (with_reducible repeat (first | refine blk_drewN ?_ _ | refine blk_drew ?_ | refine blk_alloc ?_ _)); exact BK235.out) hb)
            have n6_ := Aside0.mk (blk_below (g := gb242) (o := .cells #[.int .i64 t236, .int .i64 t237, .int .i64 t238, .slice Ao30 t239.length co30] 69 (0, 0)) (by (with_reducible repeat (first | refine blk_drewN ?_ _ | refine blk_drew ?_ | refine blk_alloc ?_ _)); exact BK242.out) hb)
            have n7_ := Aside0.mk (blk_below (g := gb250) (o := .cells #[.int .i64 t243, .int .i64 t244, .int .i64 t245, .slice Ao37 t246.length co37] 69 (0, 0)) (by (with_reducible repeat (first | refine blk_drewN ?_ _ | refine blk_drew ?_ | refine blk_alloc ?_ _)); exact BK250.out) hb)
            have n8_ := Aside0.mk (below_step (by repeat (first | (with_reducible first | exact HB.out | apply below_alloc | apply pw_below_drewN | apply below_drew1 | refine below_set ?_ GE220.out | refine below_set ?_ GE235.out | refine below_set ?_ GE242.out | refine below_set ?_ GE250.out) | exact HB.out)) hb)
            clear HO_236003
            clear HO_243003
            clear HO_251003
            clear HO257
            clear BK220
            clear BK235
            clear BK242
            clear BK250
            clear HB
            have HO_236003 := n0_
            have HO_243003 := n1_
            have HO_251003 := n2_
            have HO257 := n3_
            have BK220 := n4_
            have BK235 := n5_
            have BK242 := n6_
            have BK250 := n7_
            have HB := n8_
            clear n0_ n1_ n2_ n3_ n4_ n5_ n6_ n7_ n8_
            (try clear hb)
            (try clear hb2)
            (try clear hk)
            (try clear hi)
            refine hK.out _ _ ⟨(blk_cell BK242.out 0).trans rfl, (blk_cell BK242.out 1).trans rfl, (blk_cell BK242.out 2).trans rfl, (blk_cell BK242.out 3).trans rfl, (blk_cell BK220.out 0).trans rfl, (blk_cell BK220.out 1).trans rfl, (blk_cell BK220.out 2).trans rfl, (blk_cell BK220.out 3).trans rfl⟩ (fun hHeld => ?_)
            clear hK K
            refine norm_ (a' := ?_) ?_ ?_
            rotate_left
            · show Act.put _ (some 48) _ = _
              simp only [Act.put, List.setIfInBounds_toArray, List.set_cons_zero, List.set_cons_succ, i64_w, i32_w]
              rfl
            refine pure_ (i := 4) (N := some 49) (v := ?_) (a' := ?_) #[true, true, true, true, true] rfl rfl (by kernel_rfl) (fun _ _ _ h => h) (Or.inl ⟨by rfl, ?_⟩) ?_ ?_
            rotate_left
            · intro w'
              go_simp
              with_reducible rfl
            rotate_left
            · simp only [Act.put, List.setIfInBounds_toArray, List.set_cons_zero, List.set_cons_succ, i64_w, i32_w]
              rfl
            refine done_ (by kernel_rfl) ?_
            try go_wp2
            go_ret
            exact ⟨by first | rfl | (simp [errW_none, errW_some] <;> rfl) | (simp [*, errW_none, errW_some] <;> rfl), by repeat (first | (with_reducible first | exact HB.out | apply below_alloc | apply pw_below_drewN | apply below_drew1 | refine below_set ?_ GE220.out | refine below_set ?_ GE235.out | refine below_set ?_ GE242.out | refine below_set ?_ GE250.out) | exact HB.out)⟩

end Go.Proofs.Ytjhcphcjpndciaa.PFnExactTableCap
