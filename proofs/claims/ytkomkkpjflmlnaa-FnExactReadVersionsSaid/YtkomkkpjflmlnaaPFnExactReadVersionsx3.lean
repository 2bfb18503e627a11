-- Written by a program of this repo (xprint.py) out of the translation; Lean checks it.
import Derived.Test.YtkomkkpjflmlnaaPFnExactReadVersionsx2
import Derived.Test.YtkomkkpjflmlnaaPFnExactReadVersionsx0
import Derived.Test.YtkomkkpjflmlnaaPFnExactReadVersionsx1
namespace Go.Proofs.Ytkomkkpjflmlnaa.PFnExactReadVersions
open Go.RowKit Go.Proofs.YtkomkkpjflmlnaaW.PrintWords Go.Proofs.YtkomkkpjflmlnaaW.PrintLast Go.Proofs.YtkomkkpjflmlnaaW.PrintMore
attribute [local go_sem] max2_int min2_int max_two min_two max_three min_three max_four min_four   -- for this text's walks alone
set_option linter.unusedVariables false
set_option linter.unusedSimpArgs false
def spec_rv.Peek0 (k : Nat) (l : List Int) : Option (Int × Nat × Nat × Int) := if 65536 < l.length then some (0, 0, 0, 4) else spec_rv.peek k l
theorem spec_rv.Peek0_len {k : Nat} {l : List Int} {f : Int} {d s : Nat} {c : Int} (h : spec_rv.Peek0 k l = some (f, d, s, c)) : c = 0 → l.length ≤ 65536 := by
  intro hc
  unfold spec_rv.Peek0 at h
  by_cases c1 : 65536 < l.length
  · rw [if_pos c1] at h
    simp only [Option.some.injEq, Prod.mk.injEq] at h
    omega
  · omega
theorem spec_rv.vers_len {k : Nat} {l : List Int} {a : Int} {o : List Int} (h : spec_rv.vers k l a = some o) : 0 ≤ a ∧ a ≤ l.length ∧ l.length ≤ 1000000 := by
  unfold spec_rv.vers at h
  by_cases c1 : 0 ≤ a ∧ a ≤ l.length ∧ l.length ≤ 1000000
  · exact c1
  · rw [if_neg c1] at h; exact absurd h (by simp)
set_option maxHeartbeats 8000000 in
set_option maxRecDepth 100000 in
theorem spec_rv.Peek_calls (k : Nat) (A0 : Option Addr) (c0 : Nat) (l0 : List Int) (r1 : Int) (r2 r3 : Nat) (r4 : Int) (w : World) (hr0 : Kd.C (Kd.int .u8) w A0 l0.length l0) (hc0 : l0.length ≤ c0) (h : spec_rv.Peek0 k l0 = some (r1, r2, r3, r4)) :
    Calls Try.prog 12 #[.slice A0 l0.length c0, .int .i64 0] w fun e w' => (∃ (ver : Int) (Ad : Option Addr) (cd : Nat) (As : Option Addr) (cs : Nat) (vA : Option Addr) (vn vc : Nat) (n : Int), e = .returned (.tuple #[.agg #[.int .i64 r1, .int .i64 ver, .slice Ad r2 cd, .slice As r3 cs, .slice vA vn vc, .int .i64 0, .int .i64 0, .int .i64 0], .int .i64 n, .int .i64 r4])) ∧ Below w.heap.size w w' := by
  have huR := Try.underlying33
  have HR := Aside0.mk hr0
  have HC := Aside0.mk hc0
  clear hr0 hc0
  have HB := Aside0.mk (Below.refl w.heap.size w)
  unfold spec_rv.Peek0 at h
  by_cases c1 : 65536 < l0.length
  · rw [if_pos c1] at h
    simp only [Option.some.injEq, Prod.mk.injEq] at h
    obtain ⟨rfl, rfl, rfl, rfl⟩ := h
    have q0 : decide (65536 < (l0.length : Int)) = true := decide_eq_true (by omega)
    clear c1
    go_enter Try.func12, Try.ntmps12
    go_wp2_with (first | ((with_reducible refine gate_dst (N := 4) rfl ?_); refine box_event ?hg (N := 4) ?hd (cs := #[.int .i64 0, .int .i64 0, .slice none 0 0, .slice none 0 0, .slice none 0 0, .int .i64 0, .int .i64 0, .int .i64 0]) (t := 33) ?hr ?_; (case hd => rfl); (case hg => rfl); (case hr => first | (go_simp; done) | (go_simp; rfl)); intro gr hg w3 hbox hb; have GE_BR := Aside0.mk (show w.heap.size ≤ gr from by rw [hg]; exact below_size (by repeat (first | (with_reducible first | exact HB.out | apply below_alloc | apply pw_below_drewN | apply below_drew1) | exact HB.out))); have m0_ := Aside0.mk (show Below w.heap.size w w3 from below_step (by repeat (first | (with_reducible first | exact HB.out | apply below_alloc | apply pw_below_drewN | apply below_drew1) | exact HB.out)) hb); have m1_ := Aside0.mk (show w3.heap[gr]? = some (.cells #[.int .i64 0, .int .i64 0, .slice none 0 0, .slice none 0 0, .slice none 0 0, .int .i64 0, .int .i64 0, .int .i64 0] 33 (0, 0)) from hbox); clear HB; have HB := m0_; have BR := m1_; clear m0_ m1_; clear hb hbox hg; have z1 : w3.cell? ⟨gr, 0, none⟩ = some (.int .i64 0) := (blk_cell BR.out 0).trans rfl; have zf2 := blk_frozen BR.out 0; have z3 : w3.cell? ⟨gr, 1, none⟩ = some (.int .i64 0) := (blk_cell BR.out 1).trans rfl; have zf4 := blk_frozen BR.out 1; have z5 : w3.cell? ⟨gr, 2, none⟩ = some (.slice none 0 0) := (blk_cell BR.out 2).trans rfl; have zf6 := blk_frozen BR.out 2; have z7 : w3.cell? ⟨gr, 3, none⟩ = some (.slice none 0 0) := (blk_cell BR.out 3).trans rfl; have zf8 := blk_frozen BR.out 3; have z9 : w3.cell? ⟨gr, 4, none⟩ = some (.slice none 0 0) := (blk_cell BR.out 4).trans rfl; have zf10 := blk_frozen BR.out 4; have z11 : w3.cell? ⟨gr, 5, none⟩ = some (.int .i64 0) := (blk_cell BR.out 5).trans rfl; have zf12 := blk_frozen BR.out 5; have z13 : w3.cell? ⟨gr, 6, none⟩ = some (.int .i64 0) := (blk_cell BR.out 6).trans rfl; have zf14 := blk_frozen BR.out 6; have z15 : w3.cell? ⟨gr, 7, none⟩ = some (.int .i64 0) := (blk_cell BR.out 7).trans rfl; have zf16 := blk_frozen BR.out 7))
    try (go_region; all_goals go_wp2)
    all_goals (refine bodyPost_ret (results_ctt rfl _ _ gr 33 #[.int .i64 0, .int .i64 0, .slice none 0 0, .slice none 0 0, .slice none 0 0, .int .i64 0, .int .i64 0, .int .i64 0] (0, 0) _ rfl (by (with_reducible repeat (first | refine blk_drewN ?_ _ | refine blk_drew ?_ | refine blk_alloc ?_ _)); refine blk_put (cs := #[.int .i64 0, .int .i64 0, .slice none 0 0, .slice none 0 0, .slice none 0 0, .int .i64 0, .int .i64 0, .int .i64 0]) ?_ 7 _ rfl; (with_reducible repeat (first | refine blk_drewN ?_ _ | refine blk_drew ?_ | refine blk_alloc ?_ _)); refine blk_put (cs := #[.int .i64 0, .int .i64 0, .slice none 0 0, .slice none 0 0, .slice none 0 0, .int .i64 0, .int .i64 0, .int .i64 0]) ?_ 6 _ rfl; (with_reducible repeat (first | refine blk_drewN ?_ _ | refine blk_drew ?_ | refine blk_alloc ?_ _)); refine blk_put (cs := #[.int .i64 0, .int .i64 0, .slice none 0 0, .slice none 0 0, .slice none 0 0, .int .i64 0, .int .i64 0, .int .i64 0]) ?_ 5 _ rfl; (with_reducible repeat (first | refine blk_drewN ?_ _ | refine blk_drew ?_ | refine blk_alloc ?_ _)); refine blk_put (cs := #[.int .i64 0, .int .i64 0, .slice none 0 0, .slice none 0 0, .slice none 0 0, .int .i64 0, .int .i64 0, .int .i64 0]) ?_ 4 _ rfl; (with_reducible repeat (first | refine blk_drewN ?_ _ | refine blk_drew ?_ | refine blk_alloc ?_ _)); refine blk_put (cs := #[.int .i64 0, .int .i64 0, .slice none 0 0, .slice none 0 0, .slice none 0 0, .int .i64 0, .int .i64 0, .int .i64 0]) ?_ 3 _ rfl; (with_reducible repeat (first | refine blk_drewN ?_ _ | refine blk_drew ?_ | refine blk_alloc ?_ _)); refine blk_put (cs := #[.int .i64 0, .int .i64 0, .slice none 0 0, .slice none 0 0, .slice none 0 0, .int .i64 0, .int .i64 0, .int .i64 0]) ?_ 2 _ rfl; (with_reducible repeat (first | refine blk_drewN ?_ _ | refine blk_drew ?_ | refine blk_alloc ?_ _)); refine blk_put (cs := #[.int .i64 0, .int .i64 0, .slice none 0 0, .slice none 0 0, .slice none 0 0, .int .i64 0, .int .i64 0, .int .i64 0]) ?_ 1 _ rfl; (with_reducible repeat (first | refine blk_drewN ?_ _ | refine blk_drew ?_ | refine blk_alloc ?_ _)); refine blk_put (cs := #[.int .i64 0, .int .i64 0, .slice none 0 0, .slice none 0 0, .slice none 0 0, .int .i64 0, .int .i64 0, .int .i64 0]) ?_ 0 _ rfl; (with_reducible repeat (first | refine blk_drewN ?_ _ | refine blk_drew ?_ | refine blk_alloc ?_ _)); exact BR.out) Try.underlying33 rfl (by kernel_rfl)) rfl ?_)
    all_goals (exact ⟨⟨0, none, 0, none, 0, none, 0, 0, _, rfl⟩, (by repeat (first | (with_reducible first | exact HB.out | apply below_alloc | apply pw_below_drewN | apply below_drew1 | refine below_set ?_ GE_BR.out) | exact HB.out))⟩)
  · rw [if_neg c1] at h
    have q0 : decide (65536 < (l0.length : Int)) = false := decide_eq_false (by omega)
    have HL := Aside0.mk (show l0.length ≤ 65536 by omega)
    clear c1
    have H := Aside0.mk h
    clear h
    go_enter Try.func12, Try.ntmps12
    go_wp2_with (first | ((with_reducible refine gate_dst (N := 4) rfl ?_); refine box_event ?hg (N := 4) ?hd (cs := #[.int .i64 0, .int .i64 0, .slice none 0 0, .slice none 0 0, .slice none 0 0, .int .i64 0, .int .i64 0, .int .i64 0]) (t := 33) ?hr ?_; (case hd => rfl); (case hg => rfl); (case hr => first | (go_simp; done) | (go_simp; rfl)); intro gr hg w3 hbox hb; have GE_BR := Aside0.mk (show w.heap.size ≤ gr from by rw [hg]; exact below_size (by repeat (first | (with_reducible first | exact HB.out | apply below_alloc | apply pw_below_drewN | apply below_drew1) | exact HB.out))); have m0_ := Aside0.mk (show Below w.heap.size w w3 from below_step (by repeat (first | (with_reducible first | exact HB.out | apply below_alloc | apply pw_below_drewN | apply below_drew1) | exact HB.out)) hb); have m1_ := Aside0.mk (show w3.heap[gr]? = some (.cells #[.int .i64 0, .int .i64 0, .slice none 0 0, .slice none 0 0, .slice none 0 0, .int .i64 0, .int .i64 0, .int .i64 0] 33 (0, 0)) from hbox); clear HB; have HB := m0_; have BR := m1_; clear m0_ m1_; clear hb hbox hg; have z1 : w3.cell? ⟨gr, 0, none⟩ = some (.int .i64 0) := (blk_cell BR.out 0).trans rfl; have zf2 := blk_frozen BR.out 0; have z3 : w3.cell? ⟨gr, 1, none⟩ = some (.int .i64 0) := (blk_cell BR.out 1).trans rfl; have zf4 := blk_frozen BR.out 1; have z5 : w3.cell? ⟨gr, 2, none⟩ = some (.slice none 0 0) := (blk_cell BR.out 2).trans rfl; have zf6 := blk_frozen BR.out 2; have z7 : w3.cell? ⟨gr, 3, none⟩ = some (.slice none 0 0) := (blk_cell BR.out 3).trans rfl; have zf8 := blk_frozen BR.out 3; have z9 : w3.cell? ⟨gr, 4, none⟩ = some (.slice none 0 0) := (blk_cell BR.out 4).trans rfl; have zf10 := blk_frozen BR.out 4; have z11 : w3.cell? ⟨gr, 5, none⟩ = some (.int .i64 0) := (blk_cell BR.out 5).trans rfl; have zf12 := blk_frozen BR.out 5; have z13 : w3.cell? ⟨gr, 6, none⟩ = some (.int .i64 0) := (blk_cell BR.out 6).trans rfl; have zf14 := blk_frozen BR.out 6; have z15 : w3.cell? ⟨gr, 7, none⟩ = some (.int .i64 0) := (blk_cell BR.out 7).trans rfl; have zf16 := blk_frozen BR.out 7) | (go_at_call 16; refine (spec_rv.peek_calls k A0 c0 l0 r1 r2 r3 r4 _ ⟨(Kd.C_below HR.out (by repeat (first | (with_reducible first | exact HB.out | apply below_alloc | apply pw_below_drewN | apply below_drew1 | refine below_set ?_ GE_BR.out) | exact HB.out))), HC.out, HL.out⟩ H.out).mono ?_; rintro e w5 ⟨⟨ver, Ad, cd, As, cs, vA, vn, vc, n, rfl⟩, hb⟩; have m0_ := Aside0.mk (show Below w.heap.size w w5 from below_step (by repeat (first | (with_reducible first | exact HB.out | apply below_alloc | apply pw_below_drewN | apply below_drew1 | refine below_set ?_ GE_BR.out) | exact HB.out)) hb); have m1_ := Aside0.mk (show w5.heap[gr]? = some (.cells #[.int .i64 0, .int .i64 0, .slice none 0 0, .slice none 0 0, .slice none 0 0, .int .i64 0, .int .i64 0, .int .i64 0] 33 (0, 0)) from blk_below (g := gr) (o := .cells #[.int .i64 0, .int .i64 0, .slice none 0 0, .slice none 0 0, .slice none 0 0, .int .i64 0, .int .i64 0, .int .i64 0] 33 (0, 0)) (by (with_reducible repeat (first | refine blk_drewN ?_ _ | refine blk_drew ?_ | refine blk_alloc ?_ _)); exact BR.out) hb); clear HB; clear BR; have HB := m0_; have BR := m1_; clear m0_ m1_; clear hb; have z17 : w5.cell? ⟨gr, 0, none⟩ = some (.int .i64 0) := (blk_cell BR.out 0).trans rfl; have zf18 := blk_frozen BR.out 0; have z19 : w5.cell? ⟨gr, 1, none⟩ = some (.int .i64 0) := (blk_cell BR.out 1).trans rfl; have zf20 := blk_frozen BR.out 1; have z21 : w5.cell? ⟨gr, 2, none⟩ = some (.slice none 0 0) := (blk_cell BR.out 2).trans rfl; have zf22 := blk_frozen BR.out 2; have z23 : w5.cell? ⟨gr, 3, none⟩ = some (.slice none 0 0) := (blk_cell BR.out 3).trans rfl; have zf24 := blk_frozen BR.out 3; have z25 : w5.cell? ⟨gr, 4, none⟩ = some (.slice none 0 0) := (blk_cell BR.out 4).trans rfl; have zf26 := blk_frozen BR.out 4; have z27 : w5.cell? ⟨gr, 5, none⟩ = some (.int .i64 0) := (blk_cell BR.out 5).trans rfl; have zf28 := blk_frozen BR.out 5; have z29 : w5.cell? ⟨gr, 6, none⟩ = some (.int .i64 0) := (blk_cell BR.out 6).trans rfl; have zf30 := blk_frozen BR.out 6; have z31 : w5.cell? ⟨gr, 7, none⟩ = some (.int .i64 0) := (blk_cell BR.out 7).trans rfl; have zf32 := blk_frozen BR.out 7))
    try (go_region; all_goals go_wp2)
    all_goals (refine bodyPost_ret (results_ctt rfl _ _ gr 33 #[.int .i64 r1, .int .i64 ver, .slice Ad r2 cd, .slice As r3 cs, .slice vA vn vc, .int .i64 0, .int .i64 0, .int .i64 0] (0, 0) _ rfl (by (with_reducible repeat (first | refine blk_drewN ?_ _ | refine blk_drew ?_ | refine blk_alloc ?_ _)); refine blk_put (cs := #[.int .i64 r1, .int .i64 ver, .slice Ad r2 cd, .slice As r3 cs, .slice vA vn vc, .int .i64 0, .int .i64 0, .int .i64 0]) ?_ 7 _ rfl; (with_reducible repeat (first | refine blk_drewN ?_ _ | refine blk_drew ?_ | refine blk_alloc ?_ _)); refine blk_put (cs := #[.int .i64 r1, .int .i64 ver, .slice Ad r2 cd, .slice As r3 cs, .slice vA vn vc, .int .i64 0, .int .i64 0, .int .i64 0]) ?_ 6 _ rfl; (with_reducible repeat (first | refine blk_drewN ?_ _ | refine blk_drew ?_ | refine blk_alloc ?_ _)); refine blk_put (cs := #[.int .i64 r1, .int .i64 ver, .slice Ad r2 cd, .slice As r3 cs, .slice vA vn vc, .int .i64 0, .int .i64 0, .int .i64 0]) ?_ 5 _ rfl; (with_reducible repeat (first | refine blk_drewN ?_ _ | refine blk_drew ?_ | refine blk_alloc ?_ _)); refine blk_put (cs := #[.int .i64 r1, .int .i64 ver, .slice Ad r2 cd, .slice As r3 cs, .slice none 0 0, .int .i64 0, .int .i64 0, .int .i64 0]) ?_ 4 _ rfl; (with_reducible repeat (first | refine blk_drewN ?_ _ | refine blk_drew ?_ | refine blk_alloc ?_ _)); refine blk_put (cs := #[.int .i64 r1, .int .i64 ver, .slice Ad r2 cd, .slice none 0 0, .slice none 0 0, .int .i64 0, .int .i64 0, .int .i64 0]) ?_ 3 _ rfl; (with_reducible repeat (first | refine blk_drewN ?_ _ | refine blk_drew ?_ | refine blk_alloc ?_ _)); refine blk_put (cs := #[.int .i64 r1, .int .i64 ver, .slice none 0 0, .slice none 0 0, .slice none 0 0, .int .i64 0, .int .i64 0, .int .i64 0]) ?_ 2 _ rfl; (with_reducible repeat (first | refine blk_drewN ?_ _ | refine blk_drew ?_ | refine blk_alloc ?_ _)); refine blk_put (cs := #[.int .i64 r1, .int .i64 0, .slice none 0 0, .slice none 0 0, .slice none 0 0, .int .i64 0, .int .i64 0, .int .i64 0]) ?_ 1 _ rfl; (with_reducible repeat (first | refine blk_drewN ?_ _ | refine blk_drew ?_ | refine blk_alloc ?_ _)); refine blk_put (cs := #[.int .i64 0, .int .i64 0, .slice none 0 0, .slice none 0 0, .slice none 0 0, .int .i64 0, .int .i64 0, .int .i64 0]) ?_ 0 _ rfl; (with_reducible repeat (first | refine blk_drewN ?_ _ | refine blk_drew ?_ | refine blk_alloc ?_ _)); exact BR.out) Try.underlying33 rfl (by kernel_rfl)) rfl ?_)
    all_goals (exact ⟨⟨ver, Ad, cd, As, cs, vA, vn, vc, _, rfl⟩, (by repeat (first | (with_reducible first | exact HB.out | apply below_alloc | apply pw_below_drewN | apply below_drew1 | refine below_set ?_ GE_BR.out) | exact HB.out))⟩)

def spec_ReadVersions.f (k : Nat) (l : List Int) : Option (List Int × Int) :=
  (spec_rv.Peek0 k l).bind fun r => if r.2.2.2 = 0 then (if r.1 = 5 then (spec_rv.vers k l (7 + (r.2.1 : Int) + (r.2.2.1 : Int))).bind fun o => some (o, 0) else some ([], 3)) else some ([], r.2.2.2)
theorem spec_rv.num_mono (k : Nat) (l : List Int) (a c) : LeO (spec_rv.num k l a c) (spec_rv.num (k + 1) l a c) := by
  unfold spec_rv.num
  exact LeO.ite (LeO.bind (spec_GetVar.mono _ _ _) (fun _ => LeO.refl _)) (LeO.refl _)
theorem spec_rv.fixed_mono (k : Nat) (l : List Int) (a c n) : LeO (spec_rv.fixed k l a c n) (spec_rv.fixed (k + 1) l a c n) := by
  unfold spec_rv.fixed
  exact LeO.bind (LeO.refl _) (fun _ => LeO.bind (spec_l01Value.mono _ _) (fun _ => LeO.refl _))
theorem spec_rv.vloop_mono : ∀ k l a c s, LeO (spec_rv.vloop k l a c s) (spec_rv.vloop (k + 1) l a c s)
  | 0, _, _, _, _ => LeO.none _
  | k + 1, l, a, c, s => by
    have ih := spec_rv.vloop_mono k
    show LeO (if s.length ≤ 1000000 then _ else none) (if s.length ≤ 1000000 then _ else none)
    exact LeO.ite (LeO.ite (LeO.bind (spec_rv.fixed_mono _ _ _ _ _) (fun _ => LeO.ite (LeO.refl _) (ih _ _ _ _))) (LeO.refl _)) (LeO.refl _)
theorem spec_rv.vers_mono (k : Nat) (l : List Int) (a) : LeO (spec_rv.vers k l a) (spec_rv.vers (k + 1) l a) := by
  unfold spec_rv.vers
  exact LeO.ite (LeO.ite (LeO.ite (LeO.refl _) (LeO.ite (LeO.refl _) (spec_rv.vloop_mono _ _ _ _ _))) (LeO.refl _)) (LeO.refl _)
theorem spec_rv.tail_mono (k : Nat) (l : List Int) (f d s a c) : LeO (spec_rv.tail k l f d s a c) (spec_rv.tail (k + 1) l f d s a c) := by
  unfold spec_rv.tail
  exact LeO.bind (spec_rv.num_mono _ _ _ _) (fun _ => LeO.refl _)
theorem spec_rv.rest2_mono (k : Nat) (l : List Int) (f v d s a) : LeO (spec_rv.rest2 k l f v d s a) (spec_rv.rest2 (k + 1) l f v d s a) := by
  unfold spec_rv.rest2
  exact LeO.ite (LeO.ite (LeO.bind (spec_rv.vers_mono _ _ _) (fun _ => LeO.refl _)) (LeO.refl _)) (LeO.ite (LeO.refl _) (LeO.ite (LeO.refl _) (LeO.ite (LeO.bind (spec_rv.num_mono _ _ _ _) (fun _ => LeO.ite (LeO.refl _) (LeO.ite (LeO.refl _) (LeO.bind (LeO.refl _) (fun _ => spec_rv.tail_mono _ _ _ _ _ _ _))))) (spec_rv.tail_mono _ _ _ _ _ _ _))))
theorem spec_rv.rest1_mono (k : Nat) (l : List Int) (f a) : LeO (spec_rv.rest1 k l f a) (spec_rv.rest1 (k + 1) l f a) := by
  unfold spec_rv.rest1
  exact LeO.bind (spec_rv.fixed_mono _ _ _ _ _) (fun _ => LeO.bind (spec_rv.fixed_mono _ _ _ _ _) (fun _ => LeO.ite (LeO.refl _) (LeO.ite (LeO.refl _) (LeO.bind (LeO.refl _) (fun _ => LeO.bind (spec_rv.fixed_mono _ _ _ _ _) (fun _ => LeO.ite (LeO.refl _) (LeO.ite (LeO.refl _) (LeO.bind (LeO.refl _) (fun _ => LeO.ite (LeO.refl _) (spec_rv.rest2_mono _ _ _ _ _ _ _))))))))))
theorem spec_rv.peek_mono (k : Nat) (l : List Int) : LeO (spec_rv.peek k l) (spec_rv.peek (k + 1) l) := by
  unfold spec_rv.peek
  exact LeO.bind (spec_rv.fixed_mono _ _ _ _ _) (fun _ => LeO.ite (LeO.refl _) (LeO.ite (LeO.refl _) (LeO.ite (LeO.refl _) (spec_rv.rest1_mono _ _ _ _))))
theorem spec_ReadVersions.mono : ∀ a0 k, LeO (spec_ReadVersions.f k a0) (spec_ReadVersions.f (k + 1) a0) := by
  intro a0 k
  unfold spec_ReadVersions.f
  refine LeO.bind ?_ (fun _ => LeO.ite (LeO.ite (LeO.bind (spec_rv.vers_mono _ _ _) (fun _ => LeO.refl _)) (LeO.refl _)) (LeO.refl _))
  unfold spec_rv.Peek0
  exact LeO.ite (LeO.refl _) (spec_rv.peek_mono _ _)
set_option maxHeartbeats 8000000 in
set_option maxRecDepth 100000 in
theorem spec_ReadVersions.calls (k : Nat) (A0 : Option Addr) (c0 : Nat) (l0 : List Int) (r1 : List Int) (r2 : Int) (w : World) (hr0 : Kd.C (Kd.int .u8) w A0 l0.length l0) (hc0 : l0.length ≤ c0) (h : spec_ReadVersions.f k l0 = some (r1, r2)) :
    Calls Try.prog 4 #[.slice A0 l0.length c0] w fun e w' => ∃ v0_ : Value, e = .returned (.tuple #[v0_, .int .i64 r2]) ∧ Kd.R (Kd.int .i64) 3 w' w.heap.size (fun _ => True) v0_ r1 ∧ Below w.heap.size w w' := by
  have huR := Try.underlying33
  have HR := Aside0.mk hr0
  have HC := Aside0.mk hc0
  clear hr0 hc0
  have HB := Aside0.mk (Below.refl w.heap.size w)
  unfold spec_ReadVersions.f at h
  obtain ⟨⟨f, dl, sl, c⟩, h1, h⟩ := Option.bind_eq_some_iff.1 h
  have H1 := Aside0.mk h1
  have HL0 := Aside0.mk (spec_rv.Peek0_len h1)
  dsimp only at h
  have H := Aside0.mk h
  clear h1 h
  go_enter Try.func4, Try.ntmps4
  go_upto_region 2 with (first | (go_at_call 12; refine (spec_rv.Peek_calls k A0 c0 l0 f dl sl c _ (Kd.C_below HR.out (by repeat (first | (with_reducible first | exact HB.out | apply below_alloc | apply pw_below_drewN | apply below_drew1) | exact HB.out))) HC.out H1.out).mono ?_; rintro e w5 ⟨⟨ver, Ad, cd, As, cs, vA, vn, vc, n, rfl⟩, hb⟩; have m0_ := Aside0.mk (show Below w.heap.size w w5 from below_step (by repeat (first | (with_reducible first | exact HB.out | apply below_alloc | apply pw_below_drewN | apply below_drew1) | exact HB.out)) hb); clear HB; have HB := m0_; clear m0_; clear hb) | ((with_reducible refine gate_dst (N := 4) rfl ?_); refine box_event ?hg (N := 4) ?hd (cs := #[.int .i64 0, .int .i64 0, .slice none 0 0, .slice none 0 0, .slice none 0 0, .int .i64 0, .int .i64 0, .int .i64 0]) (t := 33) ?hr ?_; (case hd => rfl); (case hg => rfl); (case hr => first | (go_simp; done) | (go_simp; rfl)); intro gh hg w8 hbox hb; have GE_BF := Aside0.mk (show w.heap.size ≤ gh from by rw [hg]; exact below_size (by repeat (first | (with_reducible first | exact HB.out | apply below_alloc | apply pw_below_drewN | apply below_drew1) | exact HB.out))); have m0_ := Aside0.mk (show Below w.heap.size w w8 from below_step (by repeat (first | (with_reducible first | exact HB.out | apply below_alloc | apply pw_below_drewN | apply below_drew1) | exact HB.out)) hb); have m1_ := Aside0.mk (show w8.heap[gh]? = some (.cells #[.int .i64 0, .int .i64 0, .slice none 0 0, .slice none 0 0, .slice none 0 0, .int .i64 0, .int .i64 0, .int .i64 0] 33 (0, 0)) from hbox); clear HB; have HB := m0_; have BF := m1_; clear m0_ m1_; clear hb hbox hg; have z1 : w8.cell? ⟨gh, 0, none⟩ = some (.int .i64 0) := (blk_cell BF.out 0).trans rfl; have zf2 := blk_frozen BF.out 0; have z3 : w8.cell? ⟨gh, 1, none⟩ = some (.int .i64 0) := (blk_cell BF.out 1).trans rfl; have zf4 := blk_frozen BF.out 1; have z5 : w8.cell? ⟨gh, 2, none⟩ = some (.slice none 0 0) := (blk_cell BF.out 2).trans rfl; have zf6 := blk_frozen BF.out 2; have z7 : w8.cell? ⟨gh, 3, none⟩ = some (.slice none 0 0) := (blk_cell BF.out 3).trans rfl; have zf8 := blk_frozen BF.out 3; have z9 : w8.cell? ⟨gh, 4, none⟩ = some (.slice none 0 0) := (blk_cell BF.out 4).trans rfl; have zf10 := blk_frozen BF.out 4; have z11 : w8.cell? ⟨gh, 5, none⟩ = some (.int .i64 0) := (blk_cell BF.out 5).trans rfl; have zf12 := blk_frozen BF.out 5; have z13 : w8.cell? ⟨gh, 6, none⟩ = some (.int .i64 0) := (blk_cell BF.out 6).trans rfl; have zf14 := blk_frozen BF.out 6; have z15 : w8.cell? ⟨gh, 7, none⟩ = some (.int .i64 0) := (blk_cell BF.out 7).trans rfl; have zf16 := blk_frozen BF.out 7))
  clear z1 zf2 z3 zf4 z5 zf6 z7 zf8 z9 zf10 z11 zf12 z13 zf14 z15 zf16
  refine spec_rv.cwp_seal (fun W_ => Below w.heap.size w W_ ∧ W_.heap[gh]? = some (.cells #[.int .i64 f, .int .i64 ver, .slice Ad dl cd, .slice As sl cs, .slice vA vn vc, .int .i64 0, .int .i64 0, .int .i64 0] 33 (0, 0))) ⟨(by repeat (first | (with_reducible first | exact HB.out | apply below_alloc | apply pw_below_drewN | apply below_drew1 | refine below_set ?_ GE_BF.out) | exact HB.out)), (by (with_reducible repeat (first | refine blk_drewN ?_ _ | refine blk_drew ?_ | refine blk_alloc ?_ _)); refine blk_put (cs := #[.int .i64 f, .int .i64 ver, .slice Ad dl cd, .slice As sl cs, .slice vA vn vc, .int .i64 0, .int .i64 0, .int .i64 0]) ?_ 7 _ rfl; (with_reducible repeat (first | refine blk_drewN ?_ _ | refine blk_drew ?_ | refine blk_alloc ?_ _)); refine blk_put (cs := #[.int .i64 f, .int .i64 ver, .slice Ad dl cd, .slice As sl cs, .slice vA vn vc, .int .i64 0, .int .i64 0, .int .i64 0]) ?_ 6 _ rfl; (with_reducible repeat (first | refine blk_drewN ?_ _ | refine blk_drew ?_ | refine blk_alloc ?_ _)); refine blk_put (cs := #[.int .i64 f, .int .i64 ver, .slice Ad dl cd, .slice As sl cs, .slice vA vn vc, .int .i64 0, .int .i64 0, .int .i64 0]) ?_ 5 _ rfl; (with_reducible repeat (first | refine blk_drewN ?_ _ | refine blk_drew ?_ | refine blk_alloc ?_ _)); refine blk_put (cs := #[.int .i64 f, .int .i64 ver, .slice Ad dl cd, .slice As sl cs, .slice none 0 0, .int .i64 0, .int .i64 0, .int .i64 0]) ?_ 4 _ rfl; (with_reducible repeat (first | refine blk_drewN ?_ _ | refine blk_drew ?_ | refine blk_alloc ?_ _)); refine blk_put (cs := #[.int .i64 f, .int .i64 ver, .slice Ad dl cd, .slice none 0 0, .slice none 0 0, .int .i64 0, .int .i64 0, .int .i64 0]) ?_ 3 _ rfl; (with_reducible repeat (first | refine blk_drewN ?_ _ | refine blk_drew ?_ | refine blk_alloc ?_ _)); refine blk_put (cs := #[.int .i64 f, .int .i64 ver, .slice none 0 0, .slice none 0 0, .slice none 0 0, .int .i64 0, .int .i64 0, .int .i64 0]) ?_ 2 _ rfl; (with_reducible repeat (first | refine blk_drewN ?_ _ | refine blk_drew ?_ | refine blk_alloc ?_ _)); refine blk_put (cs := #[.int .i64 f, .int .i64 0, .slice none 0 0, .slice none 0 0, .slice none 0 0, .int .i64 0, .int .i64 0, .int .i64 0]) ?_ 1 _ rfl; (with_reducible repeat (first | refine blk_drewN ?_ _ | refine blk_drew ?_ | refine blk_alloc ?_ _)); refine blk_put (cs := #[.int .i64 0, .int .i64 0, .slice none 0 0, .slice none 0 0, .slice none 0 0, .int .i64 0, .int .i64 0, .int .i64 0]) ?_ 0 _ rfl; (with_reducible repeat (first | refine blk_drewN ?_ _ | refine blk_drew ?_ | refine blk_alloc ?_ _)); exact BF.out)⟩ ?_
  clear HB BF
  rintro w9 ⟨h0_, h1_⟩
  have HB := Aside0.mk h0_
  have BF := Aside0.mk h1_
  clear h0_ h1_
  have z17 : w9.cell? ⟨gh, 0, none⟩ = some (.int .i64 f) := (blk_cell BF.out 0).trans rfl
  have zf18 := blk_frozen BF.out 0
  have z19 : w9.cell? ⟨gh, 1, none⟩ = some (.int .i64 ver) := (blk_cell BF.out 1).trans rfl
  have zf20 := blk_frozen BF.out 1
  have z21 : w9.cell? ⟨gh, 2, none⟩ = some (.slice Ad dl cd) := (blk_cell BF.out 2).trans rfl
  have zf22 := blk_frozen BF.out 2
  have z23 : w9.cell? ⟨gh, 3, none⟩ = some (.slice As sl cs) := (blk_cell BF.out 3).trans rfl
  have zf24 := blk_frozen BF.out 3
  have z25 : w9.cell? ⟨gh, 4, none⟩ = some (.slice vA vn vc) := (blk_cell BF.out 4).trans rfl
  have zf26 := blk_frozen BF.out 4
  have z27 : w9.cell? ⟨gh, 5, none⟩ = some (.int .i64 0) := (blk_cell BF.out 5).trans rfl
  have zf28 := blk_frozen BF.out 5
  have z29 : w9.cell? ⟨gh, 6, none⟩ = some (.int .i64 0) := (blk_cell BF.out 6).trans rfl
  have zf30 := blk_frozen BF.out 6
  have z31 : w9.cell? ⟨gh, 7, none⟩ = some (.int .i64 0) := (blk_cell BF.out 7).trans rfl
  have zf32 := blk_frozen BF.out 7
  have h := H.out
  clear H
  by_cases c2 : c = 0
  · have q2 : (c != 0) = false := by rw [c2]; rfl
    rw [if_pos c2] at h
    have HL := Aside0.mk (HL0.out c2)
    clear c2 HL0
    by_cases c3 : f = 5
    · have q3 : (f != 5) = false := by rw [c3]; rfl
      rw [if_pos c3] at h
      clear c3
      obtain ⟨o, h_, h⟩ := Option.bind_eq_some_iff.1 h
      simp only [Option.some.injEq, Prod.mk.injEq] at h
      obtain ⟨rfl, rfl⟩ := h
      have hb_ := spec_rv.vers_len h_
      obtain ⟨y1, hy1⟩ : ∃ y : Int, y = 7 + (dl : Int) := ⟨_, rfl⟩
      obtain ⟨y2, hy2⟩ : ∃ y : Int, y = y1 + (sl : Int) := ⟨_, rfl⟩
      have e1 : IntKind.i64.wrap (7 + (dl : Int)) = y1 := by rw [hy1]; exact IntWalk.i64_in _ (by omega)
      have e2 : IntKind.i64.wrap (y1 + (sl : Int)) = y2 := by rw [hy2, hy1]; exact IntWalk.i64_in _ (by omega)
      rw [← hy1, ← hy2] at h_
      have HV := Aside0.mk h_
      clear h_ hb_ hy1 hy2
      go_wp2_with (first | ((with_reducible refine gate_dst (N := 32) rfl ?_); refine box_event ?hg (N := 32) ?hd (cs := #[.slice A0 l0.length c0, .int .i64 y2, .bool false]) (t := 38) ?hr ?_; (case hd => rfl); (case hg => rfl); (case hr => first | (go_simp; done) | (go_simp; rfl)); intro gs hg w11 hbox hb; have GE_BS := Aside0.mk (show w.heap.size ≤ gs from by rw [hg]; exact below_size (by repeat (first | (with_reducible first | exact HB.out | apply below_alloc | apply pw_below_drewN | apply below_drew1 | refine below_set ?_ GE_BF.out) | exact HB.out))); have NE_BF_BS := Aside0.mk (show gh ≠ gs from by rw [hg]; exact Nat.ne_of_lt (blk_lt (show (_ : World).heap[gh]? = some (.cells #[.int .i64 f, .int .i64 ver, .slice Ad dl cd, .slice As sl cs, .slice vA vn vc, .int .i64 0, .int .i64 0, .int .i64 0] 33 (0, 0)) from (by (with_reducible repeat (first | refine blk_drewN ?_ _ | refine blk_drew ?_ | refine blk_alloc ?_ _)); exact BF.out)))); have NE_BS_BF := Aside0.mk (NE_BF_BS.out.symm); have m0_ := Aside0.mk (show Below w.heap.size w w11 from below_step (by repeat (first | (with_reducible first | exact HB.out | apply below_alloc | apply pw_below_drewN | apply below_drew1 | refine below_set ?_ GE_BF.out) | exact HB.out)) hb); have m1_ := Aside0.mk (show w11.heap[gh]? = some (.cells #[.int .i64 f, .int .i64 ver, .slice Ad dl cd, .slice As sl cs, .slice vA vn vc, .int .i64 0, .int .i64 0, .int .i64 0] 33 (0, 0)) from blk_below (g := gh) (o := .cells #[.int .i64 f, .int .i64 ver, .slice Ad dl cd, .slice As sl cs, .slice vA vn vc, .int .i64 0, .int .i64 0, .int .i64 0] 33 (0, 0)) (by (with_reducible repeat (first | refine blk_drewN ?_ _ | refine blk_drew ?_ | refine blk_alloc ?_ _)); exact BF.out) hb); have m2_ := Aside0.mk (show w11.heap[gs]? = some (.cells #[.slice A0 l0.length c0, .int .i64 y2, .bool false] 38 (0, 0)) from hbox); clear HB; clear BF; have HB := m0_; have BF := m1_; have BS := m2_; clear m0_ m1_ m2_; clear hb hbox hg; have z33 : w11.cell? ⟨gh, 0, none⟩ = some (.int .i64 f) := (blk_cell BF.out 0).trans rfl; have zf34 := blk_frozen BF.out 0; have z35 : w11.cell? ⟨gh, 1, none⟩ = some (.int .i64 ver) := (blk_cell BF.out 1).trans rfl; have zf36 := blk_frozen BF.out 1; have z37 : w11.cell? ⟨gh, 2, none⟩ = some (.slice Ad dl cd) := (blk_cell BF.out 2).trans rfl; have zf38 := blk_frozen BF.out 2; have z39 : w11.cell? ⟨gh, 3, none⟩ = some (.slice As sl cs) := (blk_cell BF.out 3).trans rfl; have zf40 := blk_frozen BF.out 3; have z41 : w11.cell? ⟨gh, 4, none⟩ = some (.slice vA vn vc) := (blk_cell BF.out 4).trans rfl; have zf42 := blk_frozen BF.out 4; have z43 : w11.cell? ⟨gh, 5, none⟩ = some (.int .i64 0) := (blk_cell BF.out 5).trans rfl; have zf44 := blk_frozen BF.out 5; have z45 : w11.cell? ⟨gh, 6, none⟩ = some (.int .i64 0) := (blk_cell BF.out 6).trans rfl; have zf46 := blk_frozen BF.out 6; have z47 : w11.cell? ⟨gh, 7, none⟩ = some (.int .i64 0) := (blk_cell BF.out 7).trans rfl; have zf48 := blk_frozen BF.out 7; have z49 : w11.cell? ⟨gs, 0, none⟩ = some (.slice A0 l0.length c0) := (blk_cell BS.out 0).trans rfl; have zf50 := blk_frozen BS.out 0; have z51 : w11.cell? ⟨gs, 1, none⟩ = some (.int .i64 y2) := (blk_cell BS.out 1).trans rfl; have zf52 := blk_frozen BS.out 1; have z53 : w11.cell? ⟨gs, 2, none⟩ = some (.bool false) := (blk_cell BS.out 2).trans rfl; have zf54 := blk_frozen BS.out 2) | (go_at_call 13; refine (spec_rv.vers_calls k gs A0 c0 l0 y2 o w _ (by repeat (first | (with_reducible first | exact HB.out | apply below_alloc | apply pw_below_drewN | apply below_drew1 | refine below_set ?_ GE_BF.out | refine below_set ?_ GE_BS.out) | exact HB.out)) GE_BS.out (show (_ : World).heap[gs]? = some (.cells #[.slice A0 l0.length c0, .int .i64 y2, .bool false] 38 (0, 0)) from (by (with_reducible repeat (first | refine blk_drewN ?_ _ | refine blk_drew ?_ | refine blk_alloc ?_ _)); exact BS.out)) ⟨HR.out, HC.out, HL.out⟩ HV.out).mono ?_; rintro e w12 ⟨vv, a2, c2, rfl, ho_, hg_, hk_⟩; have HO := Aside0.mk (show Kd.R (Kd.int .i64) 3 w12 w.heap.size (fun _ => True) vv o from Kd.R_lower ho_ (below_size (by repeat (first | (with_reducible first | exact HB.out | apply below_alloc | apply pw_below_drewN | apply below_drew1 | refine below_set ?_ GE_BF.out | refine below_set ?_ GE_BS.out) | exact HB.out)))); have h2_ := Aside0.mk (show Below w.heap.size w w12 from (show Below w.heap.size w _ from by repeat (first | (with_reducible first | exact HB.out | apply below_alloc | apply pw_below_drewN | apply below_drew1 | refine below_set ?_ GE_BF.out | refine below_set ?_ GE_BS.out) | exact HB.out)).trans (hk_.below GE_BS.out)); clear HB; have HB := h2_; clear h2_ ho_ hg_ hk_))
      try (go_region; all_goals go_wp2)
      all_goals go_ret2
      all_goals (exact ⟨_, rfl, (by (with_reducible repeat (first | apply Kd.R_alloc | apply Kd.R_drewN | apply Kd.R_drew)); exact HO.out), (by repeat (first | (with_reducible first | exact HB.out | apply below_alloc | apply pw_below_drewN | apply below_drew1 | refine below_set ?_ GE_BF.out | refine below_set ?_ GE_BS.out) | exact HB.out))⟩)
    · have q3 : (f != 5) = true := bne_iff_ne.2 c3
      rw [if_neg c3] at h
      clear c3
      simp only [Option.some.injEq, Prod.mk.injEq] at h
      obtain ⟨rfl, rfl⟩ := h
      go_wp2_with (first | ((with_reducible refine gate_dst (N := 21) rfl ?_); refine Kd.R_lit (Kd.int .i64) _ 3 ?hg (N := 21) ?hd (xs := ([] : List Int)) (inner := []) (ok := fun _ => True) (okp := fun _ => True) ?hr ?hp (fun _ hk => hk) trivial (Below.refl _ _) (Nat.le_refl _) (by simp) ?_; (case hd => rfl); (case hg => rfl); (case hr => first | (go_simp; done) | (go_simp; rfl)); (case hp => exact (Reps.none _ _)); intro v3 w10 ho hb hg_ hnew_; clear hg_ hnew_; have HO := Aside0.mk (show Kd.R (Kd.int .i64) 3 w10 w.heap.size (fun _ => True) v3 [] from Kd.R_lower ho (below_size (by repeat (first | (with_reducible first | exact HB.out | apply below_alloc | apply pw_below_drewN | apply below_drew1 | refine below_set ?_ GE_BF.out | refine below_set ?_ GE_BS.out) | exact HB.out)))); have h2_ := Aside0.mk (below_step (by repeat (first | (with_reducible first | exact HB.out | apply below_alloc | apply pw_below_drewN | apply below_drew1 | refine below_set ?_ GE_BF.out | refine below_set ?_ GE_BS.out) | exact HB.out)) hb); clear HB; have HB := h2_; clear h2_ ho hb))
      all_goals go_ret2
      all_goals (exact ⟨_, rfl, (by (with_reducible repeat (first | apply Kd.R_alloc | apply Kd.R_drewN | apply Kd.R_drew)); exact HO.out), (by repeat (first | (with_reducible first | exact HB.out | apply below_alloc | apply pw_below_drewN | apply below_drew1 | refine below_set ?_ GE_BF.out | refine below_set ?_ GE_BS.out) | exact HB.out))⟩)
  · have q2 : (c != 0) = true := bne_iff_ne.2 c2
    rw [if_neg c2] at h
    clear c2 HL0
    simp only [Option.some.injEq, Prod.mk.injEq] at h
    obtain ⟨rfl, rfl⟩ := h
    go_wp2_with (first | ((with_reducible refine gate_dst (N := 16) rfl ?_); refine Kd.R_lit (Kd.int .i64) _ 3 ?hg (N := 16) ?hd (xs := ([] : List Int)) (inner := []) (ok := fun _ => True) (okp := fun _ => True) ?hr ?hp (fun _ hk => hk) trivial (Below.refl _ _) (Nat.le_refl _) (by simp) ?_; (case hd => rfl); (case hg => rfl); (case hr => first | (go_simp; done) | (go_simp; rfl)); (case hp => exact (Reps.none _ _)); intro v3 w10 ho hb hg_ hnew_; clear hg_ hnew_; have HO := Aside0.mk (show Kd.R (Kd.int .i64) 3 w10 w.heap.size (fun _ => True) v3 [] from Kd.R_lower ho (below_size (by repeat (first | (with_reducible first | exact HB.out | apply below_alloc | apply pw_below_drewN | apply below_drew1 | refine below_set ?_ GE_BF.out | refine below_set ?_ GE_BS.out) | exact HB.out)))); have h2_ := Aside0.mk (below_step (by repeat (first | (with_reducible first | exact HB.out | apply below_alloc | apply pw_below_drewN | apply below_drew1 | refine below_set ?_ GE_BF.out | refine below_set ?_ GE_BS.out) | exact HB.out)) hb); clear HB; have HB := h2_; clear h2_ ho hb))
    all_goals go_ret2
    all_goals (exact ⟨_, rfl, (by (with_reducible repeat (first | apply Kd.R_alloc | apply Kd.R_drewN | apply Kd.R_drew)); exact HO.out), (by repeat (first | (with_reducible first | exact HB.out | apply below_alloc | apply pw_below_drewN | apply below_drew1 | refine below_set ?_ GE_BF.out | refine below_set ?_ GE_BS.out) | exact HB.out))⟩)

end Go.Proofs.Ytkomkkpjflmlnaa.PFnExactReadVersions
