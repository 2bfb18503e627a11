-- Written by a program of this repo (xprint.py) out of the translation; Lean checks it.
import Derived.Test.YtkloeccbhjngiaaPFnExactReadHyperx0
import Derived.Test.YtkloeccbhjngiaaPFnExactReadHyperx5
import Derived.Test.YtkloeccbhjngiaaPFnExactReadHyperx6
namespace Go.Proofs.Ytkloeccbhjngiaa.PFnExactReadHyper
open Go.RowKit Go.Proofs.YtkloeccbhjngiaaW.PrintWords Go.Proofs.YtkloeccbhjngiaaW.PrintLast Go.Proofs.YtkloeccbhjngiaaW.PrintMore
attribute [local go_sem] max2_int min2_int max_two min_two max_three min_three max_four min_four   -- for this text's walks alone
set_option linter.unusedVariables false
set_option linter.unusedSimpArgs false

/-! ### impl_ReadHyper: function 15 -/
abbrev impl_rh.R := Int × Int × List Int × List (S122) × Int × Int
def impl_rh.no (e : Int) : impl_rh.R := (0, 0, [], [], 0, e)
def impl_rh.num (k : Nat) (l : List Int) (at_ code : Int) : Option (Int × Int × Int) :=
  if code = 0 then (impl_GetVar.f k l at_).bind fun t => some (if t.2.2 = 0 then (t.1, t.2.1, 0) else (0, at_, t.2.2)) else some (0, at_, code)
def impl_rh.take (l : List Int) (at_ code n : Int) : Option (List Int × Int × Int) :=
  if 0 ≤ at_ ∧ at_ ≤ l.length ∧ l.length ≤ 1000000 then
    (if code = 0 then (if n < 0 ∨ (l.length : Int) - at_ < n then some ([], at_, 2) else some ((l.drop at_.toNat).take n.toNat, at_ + n, 0)) else some ([], at_, code))
  else none
def impl_rh.loop : Nat → List Int → Int → Int → List (S122) → Option (Int × Int × List (S122))
  | 0, _, _, _, _ => none
  | k + 1, q, at_, code, set => if 0 ≤ at_ ∧ at_ ≤ q.length ∧ q.length ≤ 1000000 ∧ set.length ≤ 1000000 then (if at_ < q.length ∧ code = 0 ∧ set.length ≤ 16 then (impl_rh.num k q at_ code).bind fun a => (impl_rh.num k q a.2.1 a.2.2).bind fun b => impl_rh.loop k q b.2.1 b.2.2 (set ++ [⟨a.1, b.1⟩]) else some (at_, code, set)) else none
def impl_rh.body (k : Nat) (kind : Int) (q : List Int) : Option (Int × List Int × List (S122) × Int × Int) :=
  if kind = 4 then (impl_rh.loop k q 0 0 []).bind fun x => some (0, [], x.2.2, x.1, x.2.1)
  else if kind = 7 then (impl_rh.num k q 0 0).bind fun a => some (a.1, [], [], a.2.1, a.2.2)
  else if kind = 15 then (impl_rh.num k q 0 0).bind fun a => (impl_rh.take q a.2.1 a.2.2 ((q.length : Int) - a.2.1)).bind fun d => some (a.1, d.1, [], d.2.1, d.2.2)
  else (impl_rh.take q 0 0 (q.length : Int)).bind fun d => some (0, d.1, [], d.2.1, d.2.2)
def impl_rh.fin (k : Nat) (kind pos : Int) (q : List Int) (x : Int × List Int × List (S122) × Int × Int) : Option impl_rh.R :=
  if x.2.2.2.2 = 0 ∧ ¬ x.2.2.2.1 < (q.length : Int) then (impl_HyperOK.f k kind x.1 x.2.1 x.2.2.1).bind fun ok => some (if ok = true then (kind, x.1, x.2.1, x.2.2.1, pos, 0) else impl_rh.no 3) else some (impl_rh.no 3)
def impl_ReadHyper.f (k : Nat) (l0 : List Int) (a1 : Int) : Option (impl_rh.R) :=
  if 65536 < l0.length then some (impl_rh.no 4) else if 0 ≤ a1 ∧ a1 ≤ l0.length then
    (impl_rh.num k l0 a1 0).bind fun x1 => (impl_rh.num k l0 x1.2.1 x1.2.2).bind fun x2 =>
      (impl_rh.take l0 x2.2.1 (if 16384 < x2.1 ∧ x2.2.2 = 0 then 3 else x2.2.2) x2.1).bind fun x3 =>
        if x3.2.2 = 0 then (impl_rh.body k x1.1 x3.1).bind fun x => impl_rh.fin k x1.1 x3.2.1 x3.1 x else some (impl_rh.no x3.2.2)
  else some (impl_rh.no 1)
theorem impl_rh.num_mono (k : Nat) (l : List Int) (a c) : LeO (impl_rh.num k l a c) (impl_rh.num (k + 1) l a c) := by
  unfold impl_rh.num
  exact LeO.ite (LeO.bind (impl_GetVar.mono _ _ _) (fun _ => LeO.refl _)) (LeO.refl _)
theorem impl_rh.loop_mono : ∀ k q a c s, LeO (impl_rh.loop k q a c s) (impl_rh.loop (k + 1) q a c s)
  | 0 => fun _ _ _ _ r h => by simp [impl_rh.loop] at h
  | k + 1 => fun q a c s => by
    have ih := impl_rh.loop_mono k
    unfold impl_rh.loop
    exact LeO.ite (LeO.ite (LeO.bind (impl_rh.num_mono _ _ _ _) (fun _ => LeO.bind (impl_rh.num_mono _ _ _ _) (fun _ => ih _ _ _ _))) (LeO.refl _)) (LeO.none _)
theorem impl_ReadHyper.mono : ∀ a0 a1 k, LeO (impl_ReadHyper.f k a0 a1) (impl_ReadHyper.f (k + 1) a0 a1) := by
  intro a0 a1 k
  unfold impl_ReadHyper.f
  refine LeO.ite (LeO.refl _) (LeO.ite (LeO.bind (impl_rh.num_mono _ _ _ _) (fun _ => LeO.bind (impl_rh.num_mono _ _ _ _) (fun _ => ?_))) (LeO.refl _))
  refine LeO.bind (LeO.refl _) (fun _ => LeO.ite (LeO.bind ?_ (fun _ => ?_)) (LeO.refl _))
  · unfold impl_rh.body
    exact LeO.ite (LeO.bind (impl_rh.loop_mono _ _ _ _ _) (fun _ => LeO.refl _)) (LeO.ite (LeO.bind (impl_rh.num_mono _ _ _ _) (fun _ => LeO.refl _)) (LeO.ite (LeO.bind (impl_rh.num_mono _ _ _ _) (fun _ => LeO.refl _)) (LeO.refl _)))
  · unfold impl_rh.fin
    exact LeO.ite (LeO.bind (impl_HyperOK.mono _ _ _ _ _) (fun _ => LeO.refl _)) (LeO.refl _)
/-- A scanner at block g. -/
def impl_rh.At (w : World) (g : Nat) (A : Option Addr) (c : Nat) (l : List Int) (at_ code : Int) : Prop := w.heap[g]? = some (.cells #[.slice A l.length c, .int .i64 at_, .int .i64 code] 126 (0, 0))
theorem impl_rh.At.c0 {w : World} {g : Nat} {A : Option Addr} {c : Nat} {l : List Int} {at_ code : Int} (h : impl_rh.At w g A c l at_ code) : w.cell? ⟨g, 0, none⟩ = some (.slice A l.length c) := (blk_cell h 0).trans rfl
theorem impl_rh.At.c1 {w : World} {g : Nat} {A : Option Addr} {c : Nat} {l : List Int} {at_ code : Int} (h : impl_rh.At w g A c l at_ code) : w.cell? ⟨g, 1, none⟩ = some (.int .i64 at_) := (blk_cell h 1).trans rfl
theorem impl_rh.At.c2 {w : World} {g : Nat} {A : Option Addr} {c : Nat} {l : List Int} {at_ code : Int} (h : impl_rh.At w g A c l at_ code) : w.cell? ⟨g, 2, none⟩ = some (.int .i64 code) := (blk_cell h 2).trans rfl
/-- What a call on the state at g leaves as it was. -/
def impl_rh.Kp (w w' : World) (g : Nat) : Prop := KeepBut w w' g none ∧ Below g w w'
theorem impl_rh.Kp.refl (w : World) (g : Nat) : impl_rh.Kp w w g := ⟨KeepBut.refl w g none, Below.refl g w⟩
theorem impl_rh.Kp.set {w W : World} {g : Nat} (h : impl_rh.Kp w W g) (j : Nat) (u : Value) : impl_rh.Kp w (W.setCell ⟨g, j, none⟩ u) g := ⟨h.1.set_ j u, h.2.setCell (Nat.le_refl g) u⟩
theorem impl_rh.Kp.drewN {w W : World} {g : Nat} (h : impl_rh.Kp w W g) (n : Nat) : impl_rh.Kp w (W.drewN n) g := ⟨keep_drewN h.1 n, pw_below_drewN h.2 n⟩
theorem impl_rh.Kp.drew {w W : World} {g : Nat} (h : impl_rh.Kp w W g) : impl_rh.Kp w W.drew g := ⟨keep_drew h.1, h.2.drew⟩
theorem impl_rh.Kp.trans {w W W2 : World} {g : Nat} (h : impl_rh.Kp w W g) (k : impl_rh.Kp W W2 g) : impl_rh.Kp w W2 g := ⟨KeepBut.trans h.1 k.1 (.inl rfl), h.2.trans k.2⟩
theorem impl_rh.Kp.below {w W : World} {g B : Nat} (h : impl_rh.Kp w W g) (hg : B ≤ g) : Below B w W := h.2.mono hg
theorem impl_rh.Kp.blk {w W : World} {g g' : Nat} {o : Obj} (h : impl_rh.Kp w W g) (hb : w.heap[g']? = some o) (hne : g' ≠ g) : W.heap[g']? = some o := h.1.blk hb hne (by simp)
set_option maxHeartbeats 8000000 in
set_option maxRecDepth 100000 in
theorem impl_rh.fail_calls (g : Nat) (A : Option Addr) (c : Nat) (l : List Int) (at_ code e0 : Int) (w : World) (HG : impl_rh.At w g A c l at_ code) :
    Calls Try.prog 74 #[.pointer (some ⟨g, 0, none⟩), .int .i64 e0] w fun e w' => e = .returned (.tuple #[]) ∧ impl_rh.At w' g A c l at_ (if code = 0 then e0 else code) ∧ impl_rh.Kp w w' g := by
  have hc0 := HG.c0
  have hc1 := HG.c1
  have hc2 := HG.c2
  have hf2 := blk_frozen HG 2
  have HG' := Aside0.mk HG
  clear HG
  have HK := Aside0.mk (impl_rh.Kp.refl w g)
  by_cases h : code = 0
  · have b0 : (code == 0) = true := beq_iff_eq.2 h
    rw [if_pos h]
    clear h
    go_enter Try.func74, Try.ntmps74
    go_wp2
    first | go_end0 | ((try simp only [Exit.inBlock, Exit.then]); refine bodyPost_ret (results_none rfl _ _ _) rfl ?_)
    exact ⟨rfl, blk_put HG'.out 2 _ rfl, by repeat (first | exact HK.out | apply impl_rh.Kp.set)⟩
  · have b0 : (code == 0) = false := beq_eq_false_iff_ne.2 h
    rw [if_neg h]
    clear h
    go_enter Try.func74, Try.ntmps74
    go_wp2
    first | go_end0 | ((try simp only [Exit.inBlock, Exit.then]); refine bodyPost_ret (results_none rfl _ _ _) rfl ?_)
    exact ⟨rfl, HG'.out, HK.out⟩
set_option maxHeartbeats 8000000 in
set_option maxRecDepth 100000 in
theorem impl_rh.num_calls (k : Nat) (g : Nat) (A : Option Addr) (c : Nat) (l : List Int) (at_ code r1 r2 r3 : Int) (w : World) (HG : impl_rh.At w g A c l at_ code) (hr : Kd.C (Kd.int .u8) w A l.length l) (hc : l.length ≤ c) (h : impl_rh.num k l at_ code = some (r1, r2, r3)) :
    Calls Try.prog 73 #[.pointer (some ⟨g, 0, none⟩)] w fun e w' => e = .returned (.int .i64 r1) ∧ impl_rh.At w' g A c l r2 r3 ∧ impl_rh.Kp w w' g := by
  have hc0 := HG.c0
  have hc1 := HG.c1
  have hc2 := HG.c2
  have hf1 := blk_frozen HG 1
  have hf2 := blk_frozen HG 2
  have HG' := Aside0.mk HG
  clear HG
  have HR := Aside0.mk hr
  have HC := Aside0.mk hc
  clear hr hc
  have HK := Aside0.mk (impl_rh.Kp.refl w g)
  unfold impl_rh.num at h
  by_cases hz : code = 0
  · rw [if_pos hz] at h
    subst hz
    obtain ⟨⟨t1, t2, t3⟩, h1, h2⟩ := Option.bind_eq_some_iff.1 h
    clear h
    have H1 := Aside0.mk h1
    clear h1
    by_cases h3 : t3 = 0
    · rw [if_pos h3] at h2
      simp only [Option.some.injEq, Prod.mk.injEq] at h2
      obtain ⟨rfl, rfl, rfl⟩ := h2
      subst h3
      go_enter Try.func73, Try.ntmps73
      go_wp2
      go_region_held3 (fun w' => w'.cell? ⟨g, 0, none⟩ = some (.slice A l.length c) ∧ w'.cell? ⟨g, 1, none⟩ = some (.int .i64 at_)) (go_keep) (first | (go_at_call 160; refine (impl_GetVar.calls k A c l at_ t1 t2 0 _ (by with_reducible repeat (first | exact HR.out | refine Kd.C_alloc ?_ _ | refine Kd.C_drewN ?_ _ | refine Kd.C_drew ?_)) HC.out H1.out).mono ?_; rintro e w1 ⟨rfl, hd⟩; obtain ⟨m1, hm1⟩ := hd.out; subst hm1; clear hd))
      go_wp2
      go_ret
      exact ⟨rfl, by refine blk_put (cs := #[.slice A l.length c, .int .i64 at_, .int .i64 0]) ?_ 1 _ rfl; (with_reducible repeat (first | refine blk_drewN ?_ _ | refine blk_drew ?_ | refine blk_alloc ?_ _)); exact HG'.out, by repeat (first | (with_reducible first | exact HK.out | apply impl_rh.Kp.set | apply impl_rh.Kp.drewN | apply impl_rh.Kp.drew) | exact HK.out)⟩
    · rw [if_neg h3] at h2
      simp only [Option.some.injEq, Prod.mk.injEq] at h2
      obtain ⟨rfl, rfl, rfl⟩ := h2
      have b3 : (t3 != 0) = true := bne_iff_ne.2 h3
      clear h3
      go_enter Try.func73, Try.ntmps73
      go_wp2
      go_region_held3 (fun w' => w'.cell? ⟨g, 0, none⟩ = some (.slice A l.length c) ∧ w'.cell? ⟨g, 1, none⟩ = some (.int .i64 at_)) (go_keep) (first | (go_at_call 160; refine (impl_GetVar.calls k A c l at_ t1 t2 t3 _ (by with_reducible repeat (first | exact HR.out | refine Kd.C_alloc ?_ _ | refine Kd.C_drewN ?_ _ | refine Kd.C_drew ?_)) HC.out H1.out).mono ?_; rintro e w1 ⟨rfl, hd⟩; obtain ⟨m1, hm1⟩ := hd.out; subst hm1; clear hd))
      go_wp2_with (go_at_call 74; refine (impl_rh.fail_calls g A c l at_ 0 t3 _ (by (with_reducible repeat (first | refine blk_drewN ?_ _ | refine blk_drew ?_ | refine blk_alloc ?_ _)); exact HG'.out)).mono ?_; rintro e w2 ⟨rfl, hg2, hk2⟩; rw [if_pos rfl] at hg2; have HG2 := Aside0.mk hg2; have HK2 := Aside0.mk hk2; clear hg2 hk2)
      go_ret
      exact ⟨rfl, HG2.out, impl_rh.Kp.trans (by repeat (first | (with_reducible first | exact HK.out | apply impl_rh.Kp.set | apply impl_rh.Kp.drewN | apply impl_rh.Kp.drew) | exact HK.out)) HK2.out⟩
  · rw [if_neg hz] at h
    simp only [Option.some.injEq, Prod.mk.injEq] at h
    obtain ⟨rfl, rfl, rfl⟩ := h
    have b0 : (code != 0) = true := bne_iff_ne.2 hz
    clear hz
    go_enter Try.func73, Try.ntmps73
    go_wp2
    go_ret
    exact ⟨rfl, HG'.out, HK.out⟩
/-- What 'take' hands back. -/
def impl_rh.Cut (A : Option Addr) (c : Nat) (l : List Int) (at_ n : Int) (r1 : List Int) (r3 : Int) (v : Value) : Prop :=
  (r3 = 0 ∧ 0 ≤ at_ ∧ 0 ≤ n ∧ at_ + n ≤ l.length ∧ r1 = (l.drop at_.toNat).take n.toNat ∧ v = .slice (if c = at_.toNat then A else A.map (·.add at_.toNat)) n.toNat (c - at_.toNat)) ∨ (r3 ≠ 0 ∧ r1 = [] ∧ v = .slice none 0 0)
set_option maxHeartbeats 8000000 in
set_option maxRecDepth 100000 in
theorem impl_rh.take_calls (g : Nat) (A : Option Addr) (c : Nat) (l : List Int) (at_ code n r2 r3 : Int) (r1 : List Int) (w : World) (HG : impl_rh.At w g A c l at_ code) (hr : Kd.C (Kd.int .u8) w A l.length l) (hc : l.length ≤ c) (h : impl_rh.take l at_ code n = some (r1, r2, r3)) :
    Calls Try.prog 75 #[.pointer (some ⟨g, 0, none⟩), .int .i64 n] w fun e w' => (∃ v : Value, e = .returned v ∧ impl_rh.Cut A c l at_ n r1 r3 v) ∧ impl_rh.At w' g A c l r2 r3 ∧ impl_rh.Kp w w' g := by
  have hc0 := HG.c0
  have hc1 := HG.c1
  have hc2 := HG.c2
  have hf1 := blk_frozen HG 1
  have hf2 := blk_frozen HG 2
  have HG' := Aside0.mk HG
  clear HG
  have HR := Aside0.mk hr
  have HC := Aside0.mk hc
  have HK := Aside0.mk (impl_rh.Kp.refl w g)
  unfold impl_rh.take at h
  by_cases hb : 0 ≤ at_ ∧ at_ ≤ l.length ∧ l.length ≤ 1000000
  · rw [if_pos hb] at h
    obtain ⟨b1, b2, b3⟩ := hb
    by_cases hz : code = 0
    · rw [if_pos hz] at h
      subst hz
      by_cases hn : n < 0 ∨ (l.length : Int) - at_ < n
      have e0 : IntKind.i64.wrap ((l.length : Int) - at_) = (l.length : Int) - at_ := IntWalk.i64_in _ (by omega)
      · rw [if_pos hn] at h
        simp only [Option.some.injEq, Prod.mk.injEq] at h
        obtain ⟨rfl, rfl, rfl⟩ := h
        have hn' := Aside0.mk hn
        clear hr hc
        by_cases hn1 : n < 0
        · have q1 : decide (n < 0) = true := decide_eq_true hn1
          clear hn hn1
          go_enter Try.func75, Try.ntmps75
          go_wp2
          go_quiet (fail)
          go_wp2_with (first | (go_at_call 74; refine (impl_rh.fail_calls g A c l at_ 0 2 _ (by (with_reducible repeat (first | refine blk_drewN ?_ _ | refine blk_drew ?_ | refine blk_alloc ?_ _)); exact HG'.out)).mono ?_; rintro e w2 ⟨rfl, hg2, hk2⟩; rw [if_pos rfl] at hg2; have HG2 := Aside0.mk hg2; have HK2 := Aside0.mk hk2; clear hg2 hk2))
          go_ret
          exact ⟨⟨_, rfl, .inr ⟨by decide, rfl, rfl⟩⟩, HG2.out, impl_rh.Kp.trans (by repeat (first | (with_reducible first | exact HK.out | apply impl_rh.Kp.set | apply impl_rh.Kp.drewN | apply impl_rh.Kp.drew) | exact HK.out)) HK2.out⟩
        · have q1 : decide (n < 0) = false := decide_eq_false hn1
          have q2 : decide ((l.length : Int) - at_ < n) = true := decide_eq_true (by omega)
          clear hn
          go_enter Try.func75, Try.ntmps75
          go_wp2
          go_quiet (fail)
          go_wp2_with (first | (go_at_call 74; refine (impl_rh.fail_calls g A c l at_ 0 2 _ (by (with_reducible repeat (first | refine blk_drewN ?_ _ | refine blk_drew ?_ | refine blk_alloc ?_ _)); exact HG'.out)).mono ?_; rintro e w2 ⟨rfl, hg2, hk2⟩; rw [if_pos rfl] at hg2; have HG2 := Aside0.mk hg2; have HK2 := Aside0.mk hk2; clear hg2 hk2))
          go_ret
          exact ⟨⟨_, rfl, .inr ⟨by decide, rfl, rfl⟩⟩, HG2.out, impl_rh.Kp.trans (by repeat (first | (with_reducible first | exact HK.out | apply impl_rh.Kp.set | apply impl_rh.Kp.drewN | apply impl_rh.Kp.drew) | exact HK.out)) HK2.out⟩
      · rw [if_neg hn] at h
        simp only [Option.some.injEq, Prod.mk.injEq] at h
        obtain ⟨rfl, rfl, rfl⟩ := h
        have q1 : decide (n < 0) = false := decide_eq_false (by omega)
        have q2 : decide ((l.length : Int) - at_ < n) = false := decide_eq_false (by omega)
        have e1 : IntKind.i64.wrap (at_ + n) = at_ + n := IntWalk.i64_in _ (by omega)
        have b4 : at_ ≤ at_ + n := by omega
        have b5 : at_ + n ≤ (c : Int) := by omega
        go_enter Try.func75, Try.ntmps75
        go_wp2
        go_quiet (fail)
        go_wp2
        go_quiet (fail)
        go_wp2
        all_goals go_ret
        · have hcc : c = at_.toNat := by assumption
          subst hcc
          exact ⟨⟨_, rfl, .inl ⟨rfl, b1, by omega, by omega, rfl, by rw [if_pos rfl, Nat.sub_self, show (at_ + n).toNat - at_.toNat = n.toNat by omega]; rfl⟩⟩, by (with_reducible repeat (first | refine blk_drewN ?_ _ | refine blk_drew ?_ | refine blk_alloc ?_ _)); refine blk_put (cs := #[.slice A l.length at_.toNat, .int .i64 at_, .int .i64 0]) ?_ 1 _ rfl; (with_reducible repeat (first | refine blk_drewN ?_ _ | refine blk_drew ?_ | refine blk_alloc ?_ _)); exact HG'.out, by repeat (first | (with_reducible first | exact HK.out | apply impl_rh.Kp.set | apply impl_rh.Kp.drewN | apply impl_rh.Kp.drew) | exact HK.out)⟩
        · exact ⟨⟨_, rfl, .inl ⟨rfl, b1, by omega, by omega, rfl, by rw [if_neg (by assumption), show (at_ + n).toNat - at_.toNat = n.toNat by omega]; rfl⟩⟩, by (with_reducible repeat (first | refine blk_drewN ?_ _ | refine blk_drew ?_ | refine blk_alloc ?_ _)); refine blk_put (cs := #[.slice A l.length c, .int .i64 at_, .int .i64 0]) ?_ 1 _ rfl; (with_reducible repeat (first | refine blk_drewN ?_ _ | refine blk_drew ?_ | refine blk_alloc ?_ _)); exact HG'.out, by repeat (first | (with_reducible first | exact HK.out | apply impl_rh.Kp.set | apply impl_rh.Kp.drewN | apply impl_rh.Kp.drew) | exact HK.out)⟩
    · rw [if_neg hz] at h
      simp only [Option.some.injEq, Prod.mk.injEq] at h
      obtain ⟨rfl, rfl, rfl⟩ := h
      have q0 : (code != 0) = true := bne_iff_ne.2 hz
      have HZ := Aside0.mk hz
      clear hz hr hc
      go_enter Try.func75, Try.ntmps75
      go_wp2
      go_ret
      exact ⟨⟨_, rfl, .inr ⟨HZ.out, rfl, rfl⟩⟩, HG'.out, HK.out⟩
  · rw [if_neg hb] at h; exact absurd h (by simp)
set_option maxHeartbeats 8000000 in
set_option maxRecDepth 100000 in
theorem impl_rh.rest_calls (g : Nat) (A : Option Addr) (c : Nat) (l : List Int) (at_ code r2 r3 : Int) (r1 : List Int) (w : World) (HG : impl_rh.At w g A c l at_ code) (hr : Kd.C (Kd.int .u8) w A l.length l) (hc : l.length ≤ c) (h : impl_rh.take l at_ code ((l.length : Int) - at_) = some (r1, r2, r3)) :
    Calls Try.prog 77 #[.pointer (some ⟨g, 0, none⟩)] w fun e w' => (∃ v : Value, e = .returned v ∧ impl_rh.Cut A c l at_ ((l.length : Int) - at_) r1 r3 v) ∧ impl_rh.At w' g A c l r2 r3 ∧ impl_rh.Kp w w' g := by
  have hc0 := HG.c0
  have hc1 := HG.c1
  have HG' := Aside0.mk HG
  clear HG
  have HR := Aside0.mk hr
  have HC := Aside0.mk hc
  have H := Aside0.mk h
  have HK := Aside0.mk (impl_rh.Kp.refl w g)
  have hb : 0 ≤ at_ ∧ at_ ≤ l.length ∧ l.length ≤ 1000000 := by
    unfold impl_rh.take at h
    by_cases hb : 0 ≤ at_ ∧ at_ ≤ l.length ∧ l.length ≤ 1000000
    · exact hb
    · rw [if_neg hb] at h; exact absurd h (by simp)
  have e0 : IntKind.i64.wrap ((l.length : Int) - at_) = (l.length : Int) - at_ := IntWalk.i64_in _ (by omega)
  clear hb h hr hc
  go_enter Try.func77, Try.ntmps77
  go_wp2
  go_region_with (first | (go_at_call 75; refine (impl_rh.take_calls g A c l at_ code ((l.length : Int) - at_) r2 r3 r1 _ (by (with_reducible repeat (first | refine blk_drewN ?_ _ | refine blk_drew ?_ | refine blk_alloc ?_ _)); exact HG'.out) (by with_reducible repeat (first | exact HR.out | refine Kd.C_alloc ?_ _ | refine Kd.C_drewN ?_ _ | refine Kd.C_drew ?_)) HC.out H.out).mono ?_; rintro e w1 ⟨⟨v1, rfl, hv⟩, hg1, hk1⟩; have HV := Aside0.mk hv; have HG1 := Aside0.mk hg1; have HK1 := Aside0.mk hk1; clear hv hg1 hk1))
  all_goals go_wp2
  all_goals go_ret
  all_goals exact ⟨⟨_, rfl, HV.out⟩, by (with_reducible repeat (first | refine blk_drewN ?_ _ | refine blk_drew ?_ | refine blk_alloc ?_ _)); exact HG1.out, by repeat (first | (with_reducible first | exact impl_rh.Kp.trans (by repeat (first | (with_reducible first | exact HK.out | apply impl_rh.Kp.set | apply impl_rh.Kp.drewN | apply impl_rh.Kp.drew) | exact HK.out)) HK1.out | apply impl_rh.Kp.set | apply impl_rh.Kp.drewN | apply impl_rh.Kp.drew))⟩
theorem impl_rh.cwp_seal {P : Program} {c : Code} {Q : Exit → Act → World → Prop} {a : Act} {W : World} (F : World → Prop) (h : F W) (k : ∀ W', F W' → Code.wp P c Q a W') : Code.wp P c Q a W := k W h
theorem impl_rh.Cut.C {A : Option Addr} {c : Nat} {l : List Int} {at_ n : Int} {r1 : List Int} {v : Value} {w : World} (h : impl_rh.Cut A c l at_ n r1 0 v) (hr : Kd.C (Kd.int .u8) w A l.length l) (hc : l.length ≤ c) : ∃ A' c', v = .slice A' r1.length c' ∧ Kd.C (Kd.int .u8) w A' r1.length r1 ∧ r1.length ≤ c' := by
  rcases h with ⟨_, h0, hn, hl, rfl, rfl⟩ | ⟨h, _⟩
  · have hm : at_.toNat ≤ l.length := by omega
    have e1 : ((l.drop at_.toNat).take n.toNat).length = n.toNat := by rw [List.length_take, List.length_drop]; omega
    have h1 := Kd.C_drop hr hm hc
    have h2 := Kd.C_take h1 (m := n.toNat) (by rw [List.length_drop]; omega)
    refine ⟨_, _, by rw [e1], ?_, by rw [e1]; omega⟩
    have e2 : at_.toNat * (Kd.int .u8).sz = at_.toNat := Nat.mul_one _
    rw [e2] at h2
    exact h2
  · exact absurd rfl h
theorem impl_rh.Cut.Q {A : Option Addr} {c : Nat} {l : List Int} {at_ n : Int} {r1 : List Int} {r3 : Int} {v : Value} {w : World} {base : Nat} {ok : Nat → Prop} {e : Nat} (h : impl_rh.Cut A c l at_ n r1 r3 v) (hr : Kd.R (Kd.int .u8) e w base ok (.slice A l.length c) l) : Kd.Q (Kd.int .u8) e w base ok v r1 := by
  rcases h with ⟨_, h0, hn, hl, rfl, rfl⟩ | ⟨_, rfl, rfl⟩
  · have hm : at_.toNat ≤ l.length := by omega
    have h1 := Kd.Q_drop (Kd.Q_of_R hr) hm
    have e2 : at_.toNat * (Kd.int .u8).sz = at_.toNat := Nat.mul_one _
    rw [e2] at h1
    exact Kd.Q_take h1 (by rw [List.length_drop]; omega)
  · exact Kd.Q_nil _ _ _ _ _
theorem impl_rh.Cut.len {A : Option Addr} {c : Nat} {l : List Int} {at_ n : Int} {r1 : List Int} {r3 : Int} {v : Value} (h : impl_rh.Cut A c l at_ n r1 r3 v) : r1.length ≤ l.length := by
  rcases h with ⟨_, h0, hn, hl, rfl, rfl⟩ | ⟨_, rfl, rfl⟩
  · rw [List.length_take, List.length_drop]; omega
  · exact Nat.zero_le _
theorem impl_rh.copied_is (q : List Int) (h : q.length ≤ 65536) : impl_copied.f q = some q := by
  unfold impl_copied.f
  show (if ([] : List Int).length + q.length < 140737488355328 then some ([] ++ q) else none) = some q
  rw [if_pos (by simp; omega), List.nil_append]
theorem impl_rh.next_ {P : Program} {c : Code} {Q : Exit → Act → World → Prop} {K : Act → World → Prop} {a : Act} {W : World} (h : ∀ (a : Act) (w : World), Code.wp P c Q a w → K a w) (k : Code.wp P c Q a W) : K a W := h a W k
theorem impl_rh.infoS : (Try.prog.info? 122).map (fun i => (i.zero, i.size, i.bytes)) = some (some (.agg #[.int .i64 0, .int .i64 0]), 2, 16) := by kernel_rfl
set_option maxHeartbeats 8000000 in
set_option maxRecDepth 100000 in
theorem impl_ReadHyper.calls (k : Nat) (A0 : Option Addr) (c0 : Nat) (l0 : List Int) (a1 : Int) (r1 r2 : Int) (r3 : List Int) (r4 : List (S122)) (r5 r6 : Int) (w : World) (hr0 : Kd.C (Kd.int .u8) w A0 l0.length l0) (hc0 : l0.length ≤ c0) (h : impl_ReadHyper.f k l0 a1 = some (r1, r2, r3, r4, r5, r6)) :
    Calls Try.prog 15 #[.slice A0 l0.length c0, .int .i64 a1] w fun e w' => ∃ v2_ v3_ : Value, e = .returned (.tuple #[.agg #[.int .i64 r1, .int .i64 r2, v2_, v3_], .int .i64 r5, .int .i64 r6]) ∧ Kd.Q (Kd.int .u8) 5 w' w.heap.size (fun _ => True) v2_ r3 ∧ Kd.R k122 122 w' w.heap.size (fun _ => True) v3_ r4 ∧ Below w.heap.size w w' := by
  have huR := Try.underlying25
  have HR := Aside0.mk hr0
  have HC := Aside0.mk hc0
  clear hr0 hc0
  have HB := Aside0.mk (Below.refl w.heap.size w)
  unfold impl_ReadHyper.f at h
  by_cases c1 : 65536 < l0.length
  · rw [if_pos c1] at h
    simp only [impl_rh.no, Option.some.injEq, Prod.mk.injEq] at h
    obtain ⟨rfl, rfl, rfl, rfl, rfl, rfl⟩ := h
    have H0 := Aside0.mk (show impl_tooLong.f l0 = some true from by unfold impl_tooLong.f; rw [decide_eq_true (by omega)])
    clear c1
    go_enter Try.func15, Try.ntmps15
    go_wp2_with (first | ((with_reducible refine gate_dst (N := 4) rfl ?_); refine box_event ?hg (N := 4) ?hd (cs := #[.int .i64 0, .int .i64 0, .slice none 0 0, .slice none 0 0]) (t := 25) ?hr ?_; (case hd => rfl); (case hg => rfl); (case hr => first | (go_simp; done) | (go_simp; rfl)); intro gr hg w3 hbox hb; have GE_BR := Aside0.mk (show w.heap.size ≤ gr from by rw [hg]; exact below_size (by repeat (first | (with_reducible first | exact HB.out | apply below_alloc | apply pw_below_drewN | apply below_drew1) | exact HB.out))); have m0_ := Aside0.mk (show Below w.heap.size w w3 from below_step (by repeat (first | (with_reducible first | exact HB.out | apply below_alloc | apply pw_below_drewN | apply below_drew1) | exact HB.out)) hb); have m1_ := Aside0.mk (show w3.heap[gr]? = some (.cells #[.int .i64 0, .int .i64 0, .slice none 0 0, .slice none 0 0] 25 (0, 0)) from hbox); clear HB; have HB := m0_; have BR := m1_; clear m0_ m1_; clear hb hbox hg; have z1 : w3.cell? ⟨gr, 0, none⟩ = some (.int .i64 0) := (blk_cell BR.out 0).trans rfl; have zf2 := blk_frozen BR.out 0; have z3 : w3.cell? ⟨gr, 1, none⟩ = some (.int .i64 0) := (blk_cell BR.out 1).trans rfl; have zf4 := blk_frozen BR.out 1; have z5 : w3.cell? ⟨gr, 2, none⟩ = some (.slice none 0 0) := (blk_cell BR.out 2).trans rfl; have zf6 := blk_frozen BR.out 2; have z7 : w3.cell? ⟨gr, 3, none⟩ = some (.slice none 0 0) := (blk_cell BR.out 3).trans rfl; have zf8 := blk_frozen BR.out 3) | (go_at_call 72; refine (impl_tooLong.calls A0 c0 l0 true _ (Kd.C_below HR.out (by repeat (first | (with_reducible first | exact HB.out | apply below_alloc | apply pw_below_drewN | apply below_drew1 | refine below_set ?_ GE_BR.out) | exact HB.out))) HC.out H0.out).mono ?_; rintro e w1 ⟨rfl, hd⟩; obtain ⟨m1, hm1⟩ := hd.out; subst hm1; clear hd))
    refine bodyPost_ret (results_ctt rfl _ _ gr 25 #[.int .i64 0, .int .i64 0, .slice none 0 0, .slice none 0 0] (0, 0) _ rfl (by (with_reducible repeat (first | refine blk_drewN ?_ _ | refine blk_drew ?_ | refine blk_alloc ?_ _)); refine blk_put (cs := #[.int .i64 0, .int .i64 0, .slice none 0 0, .slice none 0 0]) ?_ 3 _ rfl; refine blk_put (cs := #[.int .i64 0, .int .i64 0, .slice none 0 0, .slice none 0 0]) ?_ 2 _ rfl; refine blk_put (cs := #[.int .i64 0, .int .i64 0, .slice none 0 0, .slice none 0 0]) ?_ 1 _ rfl; refine blk_put (cs := #[.int .i64 0, .int .i64 0, .slice none 0 0, .slice none 0 0]) ?_ 0 _ rfl; (with_reducible repeat (first | refine blk_drewN ?_ _ | refine blk_drew ?_ | refine blk_alloc ?_ _)); exact BR.out) Try.underlying25 rfl (by kernel_rfl)) rfl ?_
    exact ⟨_, _, rfl, Kd.Q_nil _ _ _ _ _, Kd.R_nil _ _ _ _ _, (by repeat (first | (with_reducible first | exact HB.out | apply below_alloc | apply pw_below_drewN | apply below_drew1 | refine below_set ?_ GE_BR.out) | exact HB.out))⟩
  · rw [if_neg c1] at h
    have H0 := Aside0.mk (show impl_tooLong.f l0 = some false from by unfold impl_tooLong.f; rw [decide_eq_false (by omega)])
    have HL := Aside0.mk (show l0.length ≤ 65536 by omega)
    clear c1
    by_cases c2 : 0 ≤ a1 ∧ a1 ≤ l0.length
    · rw [if_pos c2] at h
      obtain ⟨c2a, c2b⟩ := c2
      have q1 : decide (a1 < 0) = false := decide_eq_false (by omega)
      have q2 : decide ((l0.length : Int) < a1) = false := decide_eq_false (by omega)
      have C2 := Aside0.mk (show 0 ≤ a1 ∧ a1 ≤ (l0.length : Int) from ⟨c2a, c2b⟩)
      clear c2a c2b
      obtain ⟨⟨v1, p1, d1⟩, h1, h⟩ := Option.bind_eq_some_iff.1 h
      obtain ⟨⟨v2, p2, d2⟩, h2, h⟩ := Option.bind_eq_some_iff.1 h
      have H1 := Aside0.mk h1
      have H2 := Aside0.mk h2
      have H := Aside0.mk h
      clear h1 h2 h
      go_enter Try.func15, Try.ntmps15
      go_upto_region 7 with (first | ((with_reducible refine gate_dst (N := 4) rfl ?_); refine box_event ?hg (N := 4) ?hd (cs := #[.int .i64 0, .int .i64 0, .slice none 0 0, .slice none 0 0]) (t := 25) ?hr ?_; (case hd => rfl); (case hg => rfl); (case hr => first | (go_simp; done) | (go_simp; rfl)); intro gr hg w3 hbox hb; have GE_BR := Aside0.mk (show w.heap.size ≤ gr from by rw [hg]; exact below_size (by repeat (first | (with_reducible first | exact HB.out | apply below_alloc | apply pw_below_drewN | apply below_drew1) | exact HB.out))); have m0_ := Aside0.mk (show Below w.heap.size w w3 from below_step (by repeat (first | (with_reducible first | exact HB.out | apply below_alloc | apply pw_below_drewN | apply below_drew1) | exact HB.out)) hb); have m1_ := Aside0.mk (show w3.heap[gr]? = some (.cells #[.int .i64 0, .int .i64 0, .slice none 0 0, .slice none 0 0] 25 (0, 0)) from hbox); clear HB; have HB := m0_; have BR := m1_; clear m0_ m1_; clear hb hbox hg; have z1 : w3.cell? ⟨gr, 0, none⟩ = some (.int .i64 0) := (blk_cell BR.out 0).trans rfl; have zf2 := blk_frozen BR.out 0; have z3 : w3.cell? ⟨gr, 1, none⟩ = some (.int .i64 0) := (blk_cell BR.out 1).trans rfl; have zf4 := blk_frozen BR.out 1; have z5 : w3.cell? ⟨gr, 2, none⟩ = some (.slice none 0 0) := (blk_cell BR.out 2).trans rfl; have zf6 := blk_frozen BR.out 2; have z7 : w3.cell? ⟨gr, 3, none⟩ = some (.slice none 0 0) := (blk_cell BR.out 3).trans rfl; have zf8 := blk_frozen BR.out 3) | (go_at_call 72; refine (impl_tooLong.calls A0 c0 l0 false _ (Kd.C_below HR.out (by repeat (first | (with_reducible first | exact HB.out | apply below_alloc | apply pw_below_drewN | apply below_drew1 | refine below_set ?_ GE_BR.out) | exact HB.out))) HC.out H0.out).mono ?_; rintro e w1 ⟨rfl, hd⟩; obtain ⟨m1, hm1⟩ := hd.out; subst hm1; clear hd) | ((with_reducible refine gate_dst (N := 28) rfl ?_); refine box_event ?hg (N := 28) ?hd (cs := #[.slice A0 l0.length c0, .int .i64 a1, .int .i64 0]) (t := 126) ?hr ?_; (case hd => rfl); (case hg => rfl); (case hr => first | (go_simp; done) | (go_simp; rfl)); intro gs hg w5 hbox hb; have GE_BS := Aside0.mk (show w.heap.size ≤ gs from by rw [hg]; exact below_size (by repeat (first | (with_reducible first | exact HB.out | apply below_alloc | apply pw_below_drewN | apply below_drew1 | refine below_set ?_ GE_BR.out) | exact HB.out))); have NE_BR_BS := Aside0.mk (show gr ≠ gs from by rw [hg]; exact Nat.ne_of_lt (blk_lt (show (_ : World).heap[gr]? = some (.cells #[.int .i64 0, .int .i64 0, .slice none 0 0, .slice none 0 0] 25 (0, 0)) from (by (with_reducible repeat (first | refine blk_drewN ?_ _ | refine blk_drew ?_ | refine blk_alloc ?_ _)); exact BR.out)))); have NE_BS_BR := Aside0.mk (NE_BR_BS.out.symm); have m0_ := Aside0.mk (show Below w.heap.size w w5 from below_step (by repeat (first | (with_reducible first | exact HB.out | apply below_alloc | apply pw_below_drewN | apply below_drew1 | refine below_set ?_ GE_BR.out) | exact HB.out)) hb); have m1_ := Aside0.mk (show w5.heap[gr]? = some (.cells #[.int .i64 0, .int .i64 0, .slice none 0 0, .slice none 0 0] 25 (0, 0)) from blk_below (g := gr) (o := .cells #[.int .i64 0, .int .i64 0, .slice none 0 0, .slice none 0 0] 25 (0, 0)) (by (with_reducible repeat (first | refine blk_drewN ?_ _ | refine blk_drew ?_ | refine blk_alloc ?_ _)); exact BR.out) hb); have m2_ := Aside0.mk (show w5.heap[gs]? = some (.cells #[.slice A0 l0.length c0, .int .i64 a1, .int .i64 0] 126 (0, 0)) from hbox); clear HB; clear BR; have HB := m0_; have BR := m1_; have BS := m2_; clear m0_ m1_ m2_; clear hb hbox hg; have z9 : w5.cell? ⟨gr, 0, none⟩ = some (.int .i64 0) := (blk_cell BR.out 0).trans rfl; have zf10 := blk_frozen BR.out 0; have z11 : w5.cell? ⟨gr, 1, none⟩ = some (.int .i64 0) := (blk_cell BR.out 1).trans rfl; have zf12 := blk_frozen BR.out 1; have z13 : w5.cell? ⟨gr, 2, none⟩ = some (.slice none 0 0) := (blk_cell BR.out 2).trans rfl; have zf14 := blk_frozen BR.out 2; have z15 : w5.cell? ⟨gr, 3, none⟩ = some (.slice none 0 0) := (blk_cell BR.out 3).trans rfl; have zf16 := blk_frozen BR.out 3; have z17 : w5.cell? ⟨gs, 0, none⟩ = some (.slice A0 l0.length c0) := (blk_cell BS.out 0).trans rfl; have zf18 := blk_frozen BS.out 0; have z19 : w5.cell? ⟨gs, 1, none⟩ = some (.int .i64 a1) := (blk_cell BS.out 1).trans rfl; have zf20 := blk_frozen BS.out 1; have z21 : w5.cell? ⟨gs, 2, none⟩ = some (.int .i64 0) := (blk_cell BS.out 2).trans rfl; have zf22 := blk_frozen BS.out 2) | (go_at_call 73; refine (impl_rh.num_calls k gs A0 c0 l0 a1 0 v1 p1 d1 _ (show (_ : World).heap[gs]? = some (.cells #[.slice A0 l0.length c0, .int .i64 a1, .int .i64 0] 126 (0, 0)) from (by (with_reducible repeat (first | refine blk_drewN ?_ _ | refine blk_drew ?_ | refine blk_alloc ?_ _)); exact BS.out)) (Kd.C_below HR.out (by repeat (first | (with_reducible first | exact HB.out | apply below_alloc | apply pw_below_drewN | apply below_drew1 | refine below_set ?_ GE_BR.out | refine below_set ?_ GE_BS.out) | exact HB.out))) HC.out H1.out).mono ?_; rintro e w7 ⟨rfl, hg_, hk_⟩; have m0_ := Aside0.mk (show Below w.heap.size w w7 from (show Below w.heap.size w _ from by repeat (first | (with_reducible first | exact HB.out | apply below_alloc | apply pw_below_drewN | apply below_drew1 | refine below_set ?_ GE_BR.out | refine below_set ?_ GE_BS.out) | exact HB.out)).trans (hk_.below GE_BS.out)); have m1_ := Aside0.mk (show w7.heap[gr]? = some (.cells #[.int .i64 0, .int .i64 0, .slice none 0 0, .slice none 0 0] 25 (0, 0)) from hk_.blk (by (with_reducible repeat (first | refine blk_drewN ?_ _ | refine blk_drew ?_ | refine blk_alloc ?_ _)); exact BR.out) NE_BR_BS.out); have m2_ := Aside0.mk (show w7.heap[gs]? = some (.cells #[.slice A0 l0.length c0, .int .i64 p1, .int .i64 d1] 126 (0, 0)) from hg_); clear HB; clear BR; clear BS; have HB := m0_; have BR := m1_; have BS := m2_; clear m0_ m1_ m2_; clear hg_ hk_; have z23 : w7.cell? ⟨gr, 0, none⟩ = some (.int .i64 0) := (blk_cell BR.out 0).trans rfl; have zf24 := blk_frozen BR.out 0; have z25 : w7.cell? ⟨gr, 1, none⟩ = some (.int .i64 0) := (blk_cell BR.out 1).trans rfl; have zf26 := blk_frozen BR.out 1; have z27 : w7.cell? ⟨gr, 2, none⟩ = some (.slice none 0 0) := (blk_cell BR.out 2).trans rfl; have zf28 := blk_frozen BR.out 2; have z29 : w7.cell? ⟨gr, 3, none⟩ = some (.slice none 0 0) := (blk_cell BR.out 3).trans rfl; have zf30 := blk_frozen BR.out 3; have z31 : w7.cell? ⟨gs, 0, none⟩ = some (.slice A0 l0.length c0) := (blk_cell BS.out 0).trans rfl; have zf32 := blk_frozen BS.out 0; have z33 : w7.cell? ⟨gs, 1, none⟩ = some (.int .i64 p1) := (blk_cell BS.out 1).trans rfl; have zf34 := blk_frozen BS.out 1; have z35 : w7.cell? ⟨gs, 2, none⟩ = some (.int .i64 d1) := (blk_cell BS.out 2).trans rfl; have zf36 := blk_frozen BS.out 2) | ((with_reducible refine gate_dst (N := 8) rfl ?_); refine box_event ?hg (N := 8) ?hd (cs := #[.int .i64 0, .int .i64 0, .slice none 0 0, .slice none 0 0]) (t := 25) ?hr ?_; (case hd => rfl); (case hg => rfl); (case hr => first | (go_simp; done) | (go_simp; rfl)); intro gf hg w8 hbox hb; have GE_BF := Aside0.mk (show w.heap.size ≤ gf from by rw [hg]; exact below_size (by repeat (first | (with_reducible first | exact HB.out | apply below_alloc | apply pw_below_drewN | apply below_drew1 | refine below_set ?_ GE_BR.out | refine below_set ?_ GE_BS.out) | exact HB.out))); have NE_BR_BF := Aside0.mk (show gr ≠ gf from by rw [hg]; exact Nat.ne_of_lt (blk_lt (show (_ : World).heap[gr]? = some (.cells #[.int .i64 0, .int .i64 0, .slice none 0 0, .slice none 0 0] 25 (0, 0)) from (by (with_reducible repeat (first | refine blk_drewN ?_ _ | refine blk_drew ?_ | refine blk_alloc ?_ _)); exact BR.out)))); have NE_BF_BR := Aside0.mk (NE_BR_BF.out.symm); have NE_BS_BF := Aside0.mk (show gs ≠ gf from by rw [hg]; exact Nat.ne_of_lt (blk_lt (show (_ : World).heap[gs]? = some (.cells #[.slice A0 l0.length c0, .int .i64 p1, .int .i64 d1] 126 (0, 0)) from (by (with_reducible repeat (first | refine blk_drewN ?_ _ | refine blk_drew ?_ | refine blk_alloc ?_ _)); exact BS.out)))); have NE_BF_BS := Aside0.mk (NE_BS_BF.out.symm); have m0_ := Aside0.mk (show Below w.heap.size w w8 from below_step (by repeat (first | (with_reducible first | exact HB.out | apply below_alloc | apply pw_below_drewN | apply below_drew1 | refine below_set ?_ GE_BR.out | refine below_set ?_ GE_BS.out) | exact HB.out)) hb); have m1_ := Aside0.mk (show w8.heap[gr]? = some (.cells #[.int .i64 0, .int .i64 0, .slice none 0 0, .slice none 0 0] 25 (0, 0)) from blk_below (g := gr) (o := .cells #[.int .i64 0, .int .i64 0, .slice none 0 0, .slice none 0 0] 25 (0, 0)) (by (with_reducible repeat (first | refine blk_drewN ?_ _ | refine blk_drew ?_ | refine blk_alloc ?_ _)); exact BR.out) hb); have m2_ := Aside0.mk (show w8.heap[gs]? = some (.cells #[.slice A0 l0.length c0, .int .i64 p1, .int .i64 d1] 126 (0, 0)) from blk_below (g := gs) (o := .cells #[.slice A0 l0.length c0, .int .i64 p1, .int .i64 d1] 126 (0, 0)) (by (with_reducible repeat (first | refine blk_drewN ?_ _ | refine blk_drew ?_ | refine blk_alloc ?_ _)); exact BS.out) hb); have m3_ := Aside0.mk (show w8.heap[gf]? = some (.cells #[.int .i64 0, .int .i64 0, .slice none 0 0, .slice none 0 0] 25 (0, 0)) from hbox); clear HB; clear BR; clear BS; have HB := m0_; have BR := m1_; have BS := m2_; have BF := m3_; clear m0_ m1_ m2_ m3_; clear hb hbox hg; have z37 : w8.cell? ⟨gr, 0, none⟩ = some (.int .i64 0) := (blk_cell BR.out 0).trans rfl; have zf38 := blk_frozen BR.out 0; have z39 : w8.cell? ⟨gr, 1, none⟩ = some (.int .i64 0) := (blk_cell BR.out 1).trans rfl; have zf40 := blk_frozen BR.out 1; have z41 : w8.cell? ⟨gr, 2, none⟩ = some (.slice none 0 0) := (blk_cell BR.out 2).trans rfl; have zf42 := blk_frozen BR.out 2; have z43 : w8.cell? ⟨gr, 3, none⟩ = some (.slice none 0 0) := (blk_cell BR.out 3).trans rfl; have zf44 := blk_frozen BR.out 3; have z45 : w8.cell? ⟨gs, 0, none⟩ = some (.slice A0 l0.length c0) := (blk_cell BS.out 0).trans rfl; have zf46 := blk_frozen BS.out 0; have z47 : w8.cell? ⟨gs, 1, none⟩ = some (.int .i64 p1) := (blk_cell BS.out 1).trans rfl; have zf48 := blk_frozen BS.out 1; have z49 : w8.cell? ⟨gs, 2, none⟩ = some (.int .i64 d1) := (blk_cell BS.out 2).trans rfl; have zf50 := blk_frozen BS.out 2; have z51 : w8.cell? ⟨gf, 0, none⟩ = some (.int .i64 0) := (blk_cell BF.out 0).trans rfl; have zf52 := blk_frozen BF.out 0; have z53 : w8.cell? ⟨gf, 1, none⟩ = some (.int .i64 0) := (blk_cell BF.out 1).trans rfl; have zf54 := blk_frozen BF.out 1; have z55 : w8.cell? ⟨gf, 2, none⟩ = some (.slice none 0 0) := (blk_cell BF.out 2).trans rfl; have zf56 := blk_frozen BF.out 2; have z57 : w8.cell? ⟨gf, 3, none⟩ = some (.slice none 0 0) := (blk_cell BF.out 3).trans rfl; have zf58 := blk_frozen BF.out 3))
      refine impl_rh.cwp_seal (fun W_ => Below w.heap.size w W_ ∧ W_.heap[gr]? = some (.cells #[.int .i64 0, .int .i64 0, .slice none 0 0, .slice none 0 0] 25 (0, 0)) ∧ W_.heap[gs]? = some (.cells #[.slice A0 l0.length c0, .int .i64 p1, .int .i64 d1] 126 (0, 0)) ∧ W_.heap[gf]? = some (.cells #[.int .i64 v1, .int .i64 0, .slice none 0 0, .slice none 0 0] 25 (0, 0))) ⟨(by repeat (first | (with_reducible first | exact HB.out | apply below_alloc | apply pw_below_drewN | apply below_drew1 | refine below_set ?_ GE_BR.out | refine below_set ?_ GE_BS.out | refine below_set ?_ GE_BF.out) | exact HB.out)), by (with_reducible repeat (first | refine blk_drewN ?_ _ | refine blk_drew ?_ | refine blk_alloc ?_ _ | refine blk_far ?_ NE_BR_BF.out _)); exact BR.out, by (with_reducible repeat (first | refine blk_drewN ?_ _ | refine blk_drew ?_ | refine blk_alloc ?_ _ | refine blk_far ?_ NE_BS_BF.out _)); exact BS.out, by (with_reducible repeat (first | refine blk_drewN ?_ _ | refine blk_drew ?_ | refine blk_alloc ?_ _)); refine blk_put (cs := #[.int .i64 v1, .int .i64 0, .slice none 0 0, .slice none 0 0]) ?_ 3 _ rfl; (with_reducible repeat (first | refine blk_drewN ?_ _ | refine blk_drew ?_ | refine blk_alloc ?_ _)); refine blk_put (cs := #[.int .i64 v1, .int .i64 0, .slice none 0 0, .slice none 0 0]) ?_ 2 _ rfl; (with_reducible repeat (first | refine blk_drewN ?_ _ | refine blk_drew ?_ | refine blk_alloc ?_ _)); refine blk_put (cs := #[.int .i64 v1, .int .i64 0, .slice none 0 0, .slice none 0 0]) ?_ 1 _ rfl; (with_reducible repeat (first | refine blk_drewN ?_ _ | refine blk_drew ?_ | refine blk_alloc ?_ _)); refine blk_put (cs := #[.int .i64 0, .int .i64 0, .slice none 0 0, .slice none 0 0]) ?_ 0 _ rfl; (with_reducible repeat (first | refine blk_drewN ?_ _ | refine blk_drew ?_ | refine blk_alloc ?_ _)); exact BF.out⟩ ?_
      clear HB BR BS BF
      rintro w9 ⟨h0_, h1_, h2_, h3_⟩
      have HB := Aside0.mk h0_
      have BR := Aside0.mk h1_
      have BS := Aside0.mk h2_
      have BF := Aside0.mk h3_
      clear h0_ h1_ h2_ h3_
      have z59 : w9.cell? ⟨gr, 0, none⟩ = some (.int .i64 0) := (blk_cell BR.out 0).trans rfl
      have zf60 := blk_frozen BR.out 0
      have z61 : w9.cell? ⟨gr, 1, none⟩ = some (.int .i64 0) := (blk_cell BR.out 1).trans rfl
      have zf62 := blk_frozen BR.out 1
      have z63 : w9.cell? ⟨gr, 2, none⟩ = some (.slice none 0 0) := (blk_cell BR.out 2).trans rfl
      have zf64 := blk_frozen BR.out 2
      have z65 : w9.cell? ⟨gr, 3, none⟩ = some (.slice none 0 0) := (blk_cell BR.out 3).trans rfl
      have zf66 := blk_frozen BR.out 3
      have z67 : w9.cell? ⟨gs, 0, none⟩ = some (.slice A0 l0.length c0) := (blk_cell BS.out 0).trans rfl
      have zf68 := blk_frozen BS.out 0
      have z69 : w9.cell? ⟨gs, 1, none⟩ = some (.int .i64 p1) := (blk_cell BS.out 1).trans rfl
      have zf70 := blk_frozen BS.out 1
      have z71 : w9.cell? ⟨gs, 2, none⟩ = some (.int .i64 d1) := (blk_cell BS.out 2).trans rfl
      have zf72 := blk_frozen BS.out 2
      have z73 : w9.cell? ⟨gf, 0, none⟩ = some (.int .i64 v1) := (blk_cell BF.out 0).trans rfl
      have zf74 := blk_frozen BF.out 0
      have z75 : w9.cell? ⟨gf, 1, none⟩ = some (.int .i64 0) := (blk_cell BF.out 1).trans rfl
      have zf76 := blk_frozen BF.out 1
      have z77 : w9.cell? ⟨gf, 2, none⟩ = some (.slice none 0 0) := (blk_cell BF.out 2).trans rfl
      have zf78 := blk_frozen BF.out 2
      have z79 : w9.cell? ⟨gf, 3, none⟩ = some (.slice none 0 0) := (blk_cell BF.out 3).trans rfl
      have zf80 := blk_frozen BF.out 3
      obtain ⟨d3, hd3⟩ : ∃ d3 : Int, d3 = (if 16384 < v2 ∧ d2 = 0 then 3 else d2) := ⟨_, rfl⟩
      have HD3 := Aside0.mk hd3
      have h := H.out
      clear H
      try dsimp only at h
      rw [← hd3] at h
      have H := Aside0.mk h
      clear h hd3
      go_upto_if 35 with (first | (go_at_call 73; refine (impl_rh.num_calls k gs A0 c0 l0 p1 d1 v2 p2 d2 _ (show (_ : World).heap[gs]? = some (.cells #[.slice A0 l0.length c0, .int .i64 p1, .int .i64 d1] 126 (0, 0)) from (by (with_reducible repeat (first | refine blk_drewN ?_ _ | refine blk_drew ?_ | refine blk_alloc ?_ _)); exact BS.out)) (Kd.C_below HR.out (by repeat (first | (with_reducible first | exact HB.out | apply below_alloc | apply pw_below_drewN | apply below_drew1 | refine below_set ?_ GE_BR.out | refine below_set ?_ GE_BS.out | refine below_set ?_ GE_BF.out) | exact HB.out))) HC.out H2.out).mono ?_; rintro e w10 ⟨rfl, hg_, hk_⟩; have m0_ := Aside0.mk (show Below w.heap.size w w10 from (show Below w.heap.size w _ from by repeat (first | (with_reducible first | exact HB.out | apply below_alloc | apply pw_below_drewN | apply below_drew1 | refine below_set ?_ GE_BR.out | refine below_set ?_ GE_BS.out | refine below_set ?_ GE_BF.out) | exact HB.out)).trans (hk_.below GE_BS.out)); have m1_ := Aside0.mk (show w10.heap[gr]? = some (.cells #[.int .i64 0, .int .i64 0, .slice none 0 0, .slice none 0 0] 25 (0, 0)) from hk_.blk (by (with_reducible repeat (first | refine blk_drewN ?_ _ | refine blk_drew ?_ | refine blk_alloc ?_ _)); exact BR.out) NE_BR_BS.out); have m2_ := Aside0.mk (show w10.heap[gf]? = some (.cells #[.int .i64 v1, .int .i64 0, .slice none 0 0, .slice none 0 0] 25 (0, 0)) from hk_.blk (by (with_reducible repeat (first | refine blk_drewN ?_ _ | refine blk_drew ?_ | refine blk_alloc ?_ _)); exact BF.out) NE_BF_BS.out); have m3_ := Aside0.mk (show w10.heap[gs]? = some (.cells #[.slice A0 l0.length c0, .int .i64 p2, .int .i64 d2] 126 (0, 0)) from hg_); clear HB; clear BR; clear BF; clear BS; have HB := m0_; have BR := m1_; have BF := m2_; have BS := m3_; clear m0_ m1_ m2_ m3_; clear hg_ hk_; have z81 : w10.cell? ⟨gr, 0, none⟩ = some (.int .i64 0) := (blk_cell BR.out 0).trans rfl; have zf82 := blk_frozen BR.out 0; have z83 : w10.cell? ⟨gr, 1, none⟩ = some (.int .i64 0) := (blk_cell BR.out 1).trans rfl; have zf84 := blk_frozen BR.out 1; have z85 : w10.cell? ⟨gr, 2, none⟩ = some (.slice none 0 0) := (blk_cell BR.out 2).trans rfl; have zf86 := blk_frozen BR.out 2; have z87 : w10.cell? ⟨gr, 3, none⟩ = some (.slice none 0 0) := (blk_cell BR.out 3).trans rfl; have zf88 := blk_frozen BR.out 3; have z89 : w10.cell? ⟨gs, 0, none⟩ = some (.slice A0 l0.length c0) := (blk_cell BS.out 0).trans rfl; have zf90 := blk_frozen BS.out 0; have z91 : w10.cell? ⟨gs, 1, none⟩ = some (.int .i64 p2) := (blk_cell BS.out 1).trans rfl; have zf92 := blk_frozen BS.out 1; have z93 : w10.cell? ⟨gs, 2, none⟩ = some (.int .i64 d2) := (blk_cell BS.out 2).trans rfl; have zf94 := blk_frozen BS.out 2; have z95 : w10.cell? ⟨gf, 0, none⟩ = some (.int .i64 v1) := (blk_cell BF.out 0).trans rfl; have zf96 := blk_frozen BF.out 0; have z97 : w10.cell? ⟨gf, 1, none⟩ = some (.int .i64 0) := (blk_cell BF.out 1).trans rfl; have zf98 := blk_frozen BF.out 1; have z99 : w10.cell? ⟨gf, 2, none⟩ = some (.slice none 0 0) := (blk_cell BF.out 2).trans rfl; have zf100 := blk_frozen BF.out 2; have z101 : w10.cell? ⟨gf, 3, none⟩ = some (.slice none 0 0) := (blk_cell BF.out 3).trans rfl; have zf102 := blk_frozen BF.out 3))
      go_cut [5] (fun v5 wc => v5 = .int .i64 0 ∧ Aside0 (Below w.heap.size w wc) ∧ Aside0 (wc.heap[gr]? = some (.cells #[.int .i64 0, .int .i64 0, .slice none 0 0, .slice none 0 0] 25 (0, 0))) ∧ Aside0 (wc.heap[gs]? = some (.cells #[.slice A0 l0.length c0, .int .i64 p2, .int .i64 d3] 126 (0, 0))) ∧ Aside0 (wc.heap[gf]? = some (.cells #[.int .i64 v1, .int .i64 0, .slice none 0 0, .slice none 0 0] 25 (0, 0))))
      case first =>
        by_cases c3 : 16384 < v2
        · have q3 : decide (16384 < v2) = true := decide_eq_true c3
          go_wp2_with (first | (go_at_call 74; refine (impl_rh.fail_calls gs A0 c0 l0 p2 d2 3 _ (show (_ : World).heap[gs]? = some (.cells #[.slice A0 l0.length c0, .int .i64 p2, .int .i64 d2] 126 (0, 0)) from (by (with_reducible repeat (first | refine blk_drewN ?_ _ | refine blk_drew ?_ | refine blk_alloc ?_ _)); exact BS.out))).mono ?_; rintro e w11 ⟨rfl, hg_, hk_⟩; have m0_ := Aside0.mk (show Below w.heap.size w w11 from (show Below w.heap.size w _ from by repeat (first | (with_reducible first | exact HB.out | apply below_alloc | apply pw_below_drewN | apply below_drew1 | refine below_set ?_ GE_BR.out | refine below_set ?_ GE_BS.out | refine below_set ?_ GE_BF.out) | exact HB.out)).trans (hk_.below GE_BS.out)); have m1_ := Aside0.mk (show w11.heap[gr]? = some (.cells #[.int .i64 0, .int .i64 0, .slice none 0 0, .slice none 0 0] 25 (0, 0)) from hk_.blk (by (with_reducible repeat (first | refine blk_drewN ?_ _ | refine blk_drew ?_ | refine blk_alloc ?_ _)); exact BR.out) NE_BR_BS.out); have m2_ := Aside0.mk (show w11.heap[gf]? = some (.cells #[.int .i64 v1, .int .i64 0, .slice none 0 0, .slice none 0 0] 25 (0, 0)) from hk_.blk (by (with_reducible repeat (first | refine blk_drewN ?_ _ | refine blk_drew ?_ | refine blk_alloc ?_ _)); exact BF.out) NE_BF_BS.out); have m3_ := Aside0.mk (show w11.heap[gs]? = some (.cells #[.slice A0 l0.length c0, .int .i64 p2, .int .i64 d3] 126 (0, 0)) from (by have e_ : d3 = (if d2 = 0 then 3 else d2) := (by rw [HD3.out]; simp [c3]); rw [e_]; exact hg_)); clear HB; clear BR; clear BF; clear BS; have HB := m0_; have BR := m1_; have BF := m2_; have BS := m3_; clear m0_ m1_ m2_ m3_; clear hg_ hk_))
          go_meet
          case rel => exact ⟨rfl, ⟨(by repeat (first | (with_reducible first | exact HB.out | apply below_alloc | apply pw_below_drewN | apply below_drew1 | refine below_set ?_ GE_BR.out | refine below_set ?_ GE_BS.out | refine below_set ?_ GE_BF.out) | exact HB.out))⟩, ⟨(by (with_reducible repeat (first | refine blk_drewN ?_ _ | refine blk_drew ?_ | refine blk_alloc ?_ _)); exact BR.out)⟩, ⟨(by (with_reducible repeat (first | refine blk_drewN ?_ _ | refine blk_drew ?_ | refine blk_alloc ?_ _)); exact BS.out)⟩, ⟨(by (with_reducible repeat (first | refine blk_drewN ?_ _ | refine blk_drew ?_ | refine blk_alloc ?_ _)); exact BF.out)⟩⟩
        · have q3 : decide (16384 < v2) = false := decide_eq_false c3
          have e3 : d3 = d2 := by rw [HD3.out, if_neg (fun h_ => c3 h_.1)]
          go_wp2
          go_meet
          case rel => exact ⟨rfl, ⟨(by repeat (first | (with_reducible first | exact HB.out | apply below_alloc | apply pw_below_drewN | apply below_drew1 | refine below_set ?_ GE_BR.out | refine below_set ?_ GE_BS.out | refine below_set ?_ GE_BF.out) | exact HB.out))⟩, ⟨(by (with_reducible repeat (first | refine blk_drewN ?_ _ | refine blk_drew ?_ | refine blk_alloc ?_ _)); exact BR.out)⟩, ⟨(by rw [e3]; (with_reducible repeat (first | refine blk_drewN ?_ _ | refine blk_drew ?_ | refine blk_alloc ?_ _)); exact BS.out)⟩, ⟨(by (with_reducible repeat (first | refine blk_drewN ?_ _ | refine blk_drew ?_ | refine blk_alloc ?_ _)); exact BF.out)⟩⟩
      case rest =>
        clear HB BR BS BF
        obtain ⟨rfl, HB, BR, BS, BF⟩ := hcut
        have h := H.out
        clear H
        obtain ⟨⟨q, p3, d4⟩, h3, h⟩ := Option.bind_eq_some_iff.1 h
        have H3 := Aside0.mk h3
        clear h3
        have z103 : wc.cell? ⟨gs, 0, none⟩ = some (.slice A0 l0.length c0) := (blk_cell BS.out 0).trans rfl
        have zf104 := blk_frozen BS.out 0
        have z105 : wc.cell? ⟨gs, 1, none⟩ = some (.int .i64 p2) := (blk_cell BS.out 1).trans rfl
        have zf106 := blk_frozen BS.out 1
        have z107 : wc.cell? ⟨gs, 2, none⟩ = some (.int .i64 d3) := (blk_cell BS.out 2).trans rfl
        have zf108 := blk_frozen BS.out 2
        have z109 : wc.cell? ⟨gr, 0, none⟩ = some (.int .i64 0) := (blk_cell BR.out 0).trans rfl
        have zf110 := blk_frozen BR.out 0
        have z111 : wc.cell? ⟨gr, 1, none⟩ = some (.int .i64 0) := (blk_cell BR.out 1).trans rfl
        have zf112 := blk_frozen BR.out 1
        have z113 : wc.cell? ⟨gr, 2, none⟩ = some (.slice none 0 0) := (blk_cell BR.out 2).trans rfl
        have zf114 := blk_frozen BR.out 2
        have z115 : wc.cell? ⟨gr, 3, none⟩ = some (.slice none 0 0) := (blk_cell BR.out 3).trans rfl
        have zf116 := blk_frozen BR.out 3
        by_cases c4 : d4 = 0
        · have q4 : (d4 != 0) = false := by rw [c4]; rfl
          rw [if_pos c4] at h
          have H := Aside0.mk h
          have C4 := Aside0.mk c4
          clear h c4
          obtain ⟨⟨xa, xd, xs, pa, pd⟩, h5, h⟩ := Option.bind_eq_some_iff.1 H.out
          have H5 := Aside0.mk h5
          clear H h5
          have H := Aside0.mk h
          clear h
          go_upto_region 13 with (first | (go_at_call 75; refine (impl_rh.take_calls gs A0 c0 l0 p2 d3 v2 p3 d4 q _ (show (_ : World).heap[gs]? = some (.cells #[.slice A0 l0.length c0, .int .i64 p2, .int .i64 d3] 126 (0, 0)) from (by (with_reducible repeat (first | refine blk_drewN ?_ _ | refine blk_drew ?_ | refine blk_alloc ?_ _)); exact BS.out)) (Kd.C_below HR.out (by repeat (first | (with_reducible first | exact HB.out | apply below_alloc | apply pw_below_drewN | apply below_drew1 | refine below_set ?_ GE_BR.out | refine below_set ?_ GE_BS.out | refine below_set ?_ GE_BF.out) | exact HB.out))) HC.out H3.out).mono ?_; rintro e w12 ⟨⟨vq, rfl, hv_⟩, hg_, hk_⟩; have m0_ := Aside0.mk (show Below w.heap.size w w12 from (show Below w.heap.size w _ from by repeat (first | (with_reducible first | exact HB.out | apply below_alloc | apply pw_below_drewN | apply below_drew1 | refine below_set ?_ GE_BR.out | refine below_set ?_ GE_BS.out | refine below_set ?_ GE_BF.out) | exact HB.out)).trans (hk_.below GE_BS.out)); have m1_ := Aside0.mk (show w12.heap[gr]? = some (.cells #[.int .i64 0, .int .i64 0, .slice none 0 0, .slice none 0 0] 25 (0, 0)) from hk_.blk (by (with_reducible repeat (first | refine blk_drewN ?_ _ | refine blk_drew ?_ | refine blk_alloc ?_ _)); exact BR.out) NE_BR_BS.out); have m2_ := Aside0.mk (show w12.heap[gf]? = some (.cells #[.int .i64 v1, .int .i64 0, .slice none 0 0, .slice none 0 0] 25 (0, 0)) from hk_.blk (by (with_reducible repeat (first | refine blk_drewN ?_ _ | refine blk_drew ?_ | refine blk_alloc ?_ _)); exact BF.out) NE_BF_BS.out); have m3_ := Aside0.mk (show w12.heap[gs]? = some (.cells #[.slice A0 l0.length c0, .int .i64 p3, .int .i64 d4] 126 (0, 0)) from hg_); clear HB; clear BR; clear BF; clear BS; have HB := m0_; have BR := m1_; have BF := m2_; have BS := m3_; clear m0_ m1_ m2_ m3_; have HV := Aside0.mk hv_; clear hg_ hk_ hv_; have z117 : w12.cell? ⟨gr, 0, none⟩ = some (.int .i64 0) := (blk_cell BR.out 0).trans rfl; have zf118 := blk_frozen BR.out 0; have z119 : w12.cell? ⟨gr, 1, none⟩ = some (.int .i64 0) := (blk_cell BR.out 1).trans rfl; have zf120 := blk_frozen BR.out 1; have z121 : w12.cell? ⟨gr, 2, none⟩ = some (.slice none 0 0) := (blk_cell BR.out 2).trans rfl; have zf122 := blk_frozen BR.out 2; have z123 : w12.cell? ⟨gr, 3, none⟩ = some (.slice none 0 0) := (blk_cell BR.out 3).trans rfl; have zf124 := blk_frozen BR.out 3; have z125 : w12.cell? ⟨gs, 0, none⟩ = some (.slice A0 l0.length c0) := (blk_cell BS.out 0).trans rfl; have zf126 := blk_frozen BS.out 0; have z127 : w12.cell? ⟨gs, 1, none⟩ = some (.int .i64 p3) := (blk_cell BS.out 1).trans rfl; have zf128 := blk_frozen BS.out 1; have z129 : w12.cell? ⟨gs, 2, none⟩ = some (.int .i64 d4) := (blk_cell BS.out 2).trans rfl; have zf130 := blk_frozen BS.out 2; have z131 : w12.cell? ⟨gf, 0, none⟩ = some (.int .i64 v1) := (blk_cell BF.out 0).trans rfl; have zf132 := blk_frozen BF.out 0; have z133 : w12.cell? ⟨gf, 1, none⟩ = some (.int .i64 0) := (blk_cell BF.out 1).trans rfl; have zf134 := blk_frozen BF.out 1; have z135 : w12.cell? ⟨gf, 2, none⟩ = some (.slice none 0 0) := (blk_cell BF.out 2).trans rfl; have zf136 := blk_frozen BF.out 2; have z137 : w12.cell? ⟨gf, 3, none⟩ = some (.slice none 0 0) := (blk_cell BF.out 3).trans rfl; have zf138 := blk_frozen BF.out 3))
          obtain ⟨Aq, cq, rfl, hcq, hlq⟩ := impl_rh.Cut.C (by have hv_ := HV.out; rw [C4.out] at hv_; exact hv_) (Kd.C_below HR.out HB.out) HC.out
          have HCQ := Aside0.mk hcq
          have HLQ := Aside0.mk hlq
          have HCP := Aside0.mk (impl_rh.copied_is q (Nat.le_trans HV.out.len HL.out))
          have HQL := Aside0.mk (Nat.le_trans HV.out.len HL.out)
          clear hcq hlq
          go_upto_region 14 with (first | (go_at_call 76; refine (impl_copied.calls Aq cq q q _ (by with_reducible repeat (first | exact HCQ.out | refine Kd.C_alloc ?_ _ | refine Kd.C_drewN ?_ _ | refine Kd.C_drew ?_)) HLQ.out HCP.out).mono ?_; rintro e w13 ⟨vp_, rfl, ho_, hb_⟩; obtain ⟨Ap, cp, rfl⟩ := Kd.R_slice ho_; have HLP := Aside0.mk (Kd.R_reads' ho_).2.1; have m0_ := Aside0.mk (show Below w.heap.size w w13 from below_step (by repeat (first | (with_reducible first | exact HB.out | apply below_alloc | apply pw_below_drewN | apply below_drew1 | refine below_set ?_ GE_BR.out | refine below_set ?_ GE_BS.out | refine below_set ?_ GE_BF.out) | exact HB.out)) hb_); have m1_ := Aside0.mk (show w13.heap[gr]? = some (.cells #[.int .i64 0, .int .i64 0, .slice none 0 0, .slice none 0 0] 25 (0, 0)) from blk_below (g := gr) (o := .cells #[.int .i64 0, .int .i64 0, .slice none 0 0, .slice none 0 0] 25 (0, 0)) (by (with_reducible repeat (first | refine blk_drewN ?_ _ | refine blk_drew ?_ | refine blk_alloc ?_ _)); exact BR.out) hb_); have m2_ := Aside0.mk (show w13.heap[gs]? = some (.cells #[.slice A0 l0.length c0, .int .i64 p3, .int .i64 d4] 126 (0, 0)) from blk_below (g := gs) (o := .cells #[.slice A0 l0.length c0, .int .i64 p3, .int .i64 d4] 126 (0, 0)) (by (with_reducible repeat (first | refine blk_drewN ?_ _ | refine blk_drew ?_ | refine blk_alloc ?_ _)); exact BS.out) hb_); have m3_ := Aside0.mk (show w13.heap[gf]? = some (.cells #[.int .i64 v1, .int .i64 0, .slice none 0 0, .slice none 0 0] 25 (0, 0)) from blk_below (g := gf) (o := .cells #[.int .i64 v1, .int .i64 0, .slice none 0 0, .slice none 0 0] 25 (0, 0)) (by (with_reducible repeat (first | refine blk_drewN ?_ _ | refine blk_drew ?_ | refine blk_alloc ?_ _)); exact BF.out) hb_); have m4_ := Aside0.mk (show Kd.R (Kd.int .u8) 5 w13 w.heap.size (fun _ => True) (.slice Ap q.length cp) (q) from Kd.R_lower ho_ (below_size (by repeat (first | (with_reducible first | exact HB.out | apply below_alloc | apply pw_below_drewN | apply below_drew1 | refine below_set ?_ GE_BR.out | refine below_set ?_ GE_BS.out | refine below_set ?_ GE_BF.out) | exact HB.out)))); clear HB; clear BR; clear BS; clear BF; have HB := m0_; have BR := m1_; have BS := m2_; have BF := m3_; have HQ := m4_; clear m0_ m1_ m2_ m3_ m4_; clear ho_ hb_) | ((with_reducible refine gate_dst (N := 54) rfl ?_); refine box_event ?hg (N := 54) ?hd (cs := #[.slice Ap q.length cp, .int .i64 0, .int .i64 0]) (t := 126) ?hr ?_; (case hd => rfl); (case hg => rfl); (case hr => first | (go_simp; done) | (go_simp; rfl)); intro gp hg w14 hbox hb; have GE_BP := Aside0.mk (show w.heap.size ≤ gp from by rw [hg]; exact below_size (by repeat (first | (with_reducible first | exact HB.out | apply below_alloc | apply pw_below_drewN | apply below_drew1 | refine below_set ?_ GE_BR.out | refine below_set ?_ GE_BS.out | refine below_set ?_ GE_BF.out) | exact HB.out))); have NE_BR_BP := Aside0.mk (show gr ≠ gp from by rw [hg]; exact Nat.ne_of_lt (blk_lt (show (_ : World).heap[gr]? = some (.cells #[.int .i64 0, .int .i64 0, .slice none 0 0, .slice none 0 0] 25 (0, 0)) from (by (with_reducible repeat (first | refine blk_drewN ?_ _ | refine blk_drew ?_ | refine blk_alloc ?_ _)); exact BR.out)))); have NE_BP_BR := Aside0.mk (NE_BR_BP.out.symm); have NE_BS_BP := Aside0.mk (show gs ≠ gp from by rw [hg]; exact Nat.ne_of_lt (blk_lt (show (_ : World).heap[gs]? = some (.cells #[.slice A0 l0.length c0, .int .i64 p3, .int .i64 d4] 126 (0, 0)) from (by (with_reducible repeat (first | refine blk_drewN ?_ _ | refine blk_drew ?_ | refine blk_alloc ?_ _)); exact BS.out)))); have NE_BP_BS := Aside0.mk (NE_BS_BP.out.symm); have NE_BF_BP := Aside0.mk (show gf ≠ gp from by rw [hg]; exact Nat.ne_of_lt (blk_lt (show (_ : World).heap[gf]? = some (.cells #[.int .i64 v1, .int .i64 0, .slice none 0 0, .slice none 0 0] 25 (0, 0)) from (by (with_reducible repeat (first | refine blk_drewN ?_ _ | refine blk_drew ?_ | refine blk_alloc ?_ _)); exact BF.out)))); have NE_BP_BF := Aside0.mk (NE_BF_BP.out.symm); have m0_ := Aside0.mk (show Below w.heap.size w w14 from below_step (by repeat (first | (with_reducible first | exact HB.out | apply below_alloc | apply pw_below_drewN | apply below_drew1 | refine below_set ?_ GE_BR.out | refine below_set ?_ GE_BS.out | refine below_set ?_ GE_BF.out) | exact HB.out)) hb); have m1_ := Aside0.mk (show w14.heap[gr]? = some (.cells #[.int .i64 0, .int .i64 0, .slice none 0 0, .slice none 0 0] 25 (0, 0)) from blk_below (g := gr) (o := .cells #[.int .i64 0, .int .i64 0, .slice none 0 0, .slice none 0 0] 25 (0, 0)) (by (with_reducible repeat (first | refine blk_drewN ?_ _ | refine blk_drew ?_ | refine blk_alloc ?_ _)); exact BR.out) hb); have m2_ := Aside0.mk (show w14.heap[gs]? = some (.cells #[.slice A0 l0.length c0, .int .i64 p3, .int .i64 d4] 126 (0, 0)) from blk_below (g := gs) (o := .cells #[.slice A0 l0.length c0, .int .i64 p3, .int .i64 d4] 126 (0, 0)) (by (with_reducible repeat (first | refine blk_drewN ?_ _ | refine blk_drew ?_ | refine blk_alloc ?_ _)); exact BS.out) hb); have m3_ := Aside0.mk (show w14.heap[gf]? = some (.cells #[.int .i64 v1, .int .i64 0, .slice none 0 0, .slice none 0 0] 25 (0, 0)) from blk_below (g := gf) (o := .cells #[.int .i64 v1, .int .i64 0, .slice none 0 0, .slice none 0 0] 25 (0, 0)) (by (with_reducible repeat (first | refine blk_drewN ?_ _ | refine blk_drew ?_ | refine blk_alloc ?_ _)); exact BF.out) hb); have m4_ := Aside0.mk (show Kd.R (Kd.int .u8) 5 w14 w.heap.size (fun _ => True) (.slice Ap q.length cp) (q) from Kd.R_below (by (with_reducible repeat (first | apply Kd.R_alloc | apply Kd.R_drewN | apply Kd.R_drew)); exact HQ.out) hb); have m5_ := Aside0.mk (show w14.heap[gp]? = some (.cells #[.slice Ap q.length cp, .int .i64 0, .int .i64 0] 126 (0, 0)) from hbox); clear HB; clear BR; clear BS; clear BF; clear HQ; have HB := m0_; have BR := m1_; have BS := m2_; have BF := m3_; have HQ := m4_; have BP := m5_; clear m0_ m1_ m2_ m3_ m4_ m5_; clear hb hbox hg; have z139 : w14.cell? ⟨gr, 0, none⟩ = some (.int .i64 0) := (blk_cell BR.out 0).trans rfl; have zf140 := blk_frozen BR.out 0; have z141 : w14.cell? ⟨gr, 1, none⟩ = some (.int .i64 0) := (blk_cell BR.out 1).trans rfl; have zf142 := blk_frozen BR.out 1; have z143 : w14.cell? ⟨gr, 2, none⟩ = some (.slice none 0 0) := (blk_cell BR.out 2).trans rfl; have zf144 := blk_frozen BR.out 2; have z145 : w14.cell? ⟨gr, 3, none⟩ = some (.slice none 0 0) := (blk_cell BR.out 3).trans rfl; have zf146 := blk_frozen BR.out 3; have z147 : w14.cell? ⟨gs, 0, none⟩ = some (.slice A0 l0.length c0) := (blk_cell BS.out 0).trans rfl; have zf148 := blk_frozen BS.out 0; have z149 : w14.cell? ⟨gs, 1, none⟩ = some (.int .i64 p3) := (blk_cell BS.out 1).trans rfl; have zf150 := blk_frozen BS.out 1; have z151 : w14.cell? ⟨gs, 2, none⟩ = some (.int .i64 d4) := (blk_cell BS.out 2).trans rfl; have zf152 := blk_frozen BS.out 2; have z153 : w14.cell? ⟨gf, 0, none⟩ = some (.int .i64 v1) := (blk_cell BF.out 0).trans rfl; have zf154 := blk_frozen BF.out 0; have z155 : w14.cell? ⟨gf, 1, none⟩ = some (.int .i64 0) := (blk_cell BF.out 1).trans rfl; have zf156 := blk_frozen BF.out 1; have z157 : w14.cell? ⟨gf, 2, none⟩ = some (.slice none 0 0) := (blk_cell BF.out 2).trans rfl; have zf158 := blk_frozen BF.out 2; have z159 : w14.cell? ⟨gf, 3, none⟩ = some (.slice none 0 0) := (blk_cell BF.out 3).trans rfl; have zf160 := blk_frozen BF.out 3; have z161 : w14.cell? ⟨gp, 0, none⟩ = some (.slice Ap q.length cp) := (blk_cell BP.out 0).trans rfl; have zf162 := blk_frozen BP.out 0; have z163 : w14.cell? ⟨gp, 1, none⟩ = some (.int .i64 0) := (blk_cell BP.out 1).trans rfl; have zf164 := blk_frozen BP.out 1; have z165 : w14.cell? ⟨gp, 2, none⟩ = some (.int .i64 0) := (blk_cell BP.out 2).trans rfl; have zf166 := blk_frozen BP.out 2))
          go_cut [56] from 57 (fun v56 wc => v56 = .int .i64 v1 ∧ Aside0 (Below w.heap.size w wc) ∧ Aside0 (wc.heap[gr]? = some (.cells #[.int .i64 0, .int .i64 0, .slice none 0 0, .slice none 0 0] 25 (0, 0))) ∧ Aside0 (wc.heap[gs]? = some (.cells #[.slice A0 l0.length c0, .int .i64 p3, .int .i64 d4] 126 (0, 0))) ∧ Aside0 (wc.heap[gf]? = some (.cells #[.int .i64 v1, .int .i64 0, .slice none 0 0, .slice none 0 0] 25 (0, 0))) ∧ Aside0 (wc.heap[gp]? = some (.cells #[.slice Ap q.length cp, .int .i64 0, .int .i64 0] 126 (0, 0))) ∧ Aside0 (Kd.R (Kd.int .u8) 5 wc w.heap.size (fun _ => True) (.slice Ap q.length cp) (q)))
          case first =>
            go_wp2
            go_meet
            case rel => exact ⟨rfl, ⟨(by repeat (first | (with_reducible first | exact HB.out | apply below_alloc | apply pw_below_drewN | apply below_drew1 | refine below_set ?_ GE_BR.out | refine below_set ?_ GE_BS.out | refine below_set ?_ GE_BF.out | refine below_set ?_ GE_BP.out) | exact HB.out))⟩, ⟨(by (with_reducible repeat (first | refine blk_drewN ?_ _ | refine blk_drew ?_ | refine blk_alloc ?_ _)); exact BR.out)⟩, ⟨(by (with_reducible repeat (first | refine blk_drewN ?_ _ | refine blk_drew ?_ | refine blk_alloc ?_ _)); exact BS.out)⟩, ⟨(by (with_reducible repeat (first | refine blk_drewN ?_ _ | refine blk_drew ?_ | refine blk_alloc ?_ _)); exact BF.out)⟩, ⟨(by (with_reducible repeat (first | refine blk_drewN ?_ _ | refine blk_drew ?_ | refine blk_alloc ?_ _)); exact BP.out)⟩, ⟨(by (with_reducible repeat (first | apply Kd.R_alloc | apply Kd.R_drewN | apply Kd.R_drew)); exact HQ.out)⟩⟩
          case rest =>
            clear HB BR BS BF BP HQ
            obtain ⟨rfl, HB, BR, BS, BF, BP, HQ⟩ := hcut
            refine impl_rh.next_ (by assumption) ?_
            go_cut [5] from 13 (fun v5 wc => ∃ (vd vs : Value), v5 = .int .i64 0 ∧ Aside0 (Below w.heap.size w wc) ∧ Aside0 (wc.heap[gr]? = some (.cells #[.int .i64 0, .int .i64 0, .slice none 0 0, .slice none 0 0] 25 (0, 0))) ∧ Aside0 (wc.heap[gs]? = some (.cells #[.slice A0 l0.length c0, .int .i64 p3, .int .i64 d4] 126 (0, 0))) ∧ Aside0 (wc.heap[gf]? = some (.cells #[.int .i64 v1, .int .i64 xa, vd, vs] 25 (0, 0))) ∧ Aside0 (wc.heap[gp]? = some (.cells #[.slice Ap q.length cp, .int .i64 pa, .int .i64 pd] 126 (0, 0))) ∧ Aside0 (Kd.Q (Kd.int .u8) 5 wc w.heap.size (fun _ => True) vd xd) ∧ Aside0 (Kd.R k122 122 wc w.heap.size (fun _ => True) vs xs))
            case first =>
              have h5 := H5.out
              clear H5 H
              unfold impl_rh.body at h5
              by_cases k4 : v1 = 4
              · rw [if_pos k4] at h5
                have qk4 : (v1 == 4) = true := by rw [k4]; rfl
                have qk7 : (v1 == 7) = false := by rw [k4]; rfl
                have qk15 : (v1 == 15) = false := by rw [k4]; rfl
                obtain ⟨⟨la, lc, lst⟩, hl_, h5⟩ := Option.bind_eq_some_iff.1 h5
                simp only [Option.some.injEq, Prod.mk.injEq] at h5
                obtain ⟨rfl, rfl, rfl, rfl, rfl⟩ := h5
                have HL0 := Aside0.mk hl_
                clear hl_
                go_wp2
                go_loopg [12] k (fun kq v12 wr => ∃ (a_ c_ : Int) (st : List (S122)) (vs : Value), Aside0 (impl_rh.loop kq q a_ c_ st = some (la, lc, lst)) ∧ Aside0 (kq ≤ k) ∧ Aside0 (Below w.heap.size w wr) ∧ Aside0 (wr.heap[gr]? = some (.cells #[.int .i64 0, .int .i64 0, .slice none 0 0, .slice none 0 0] 25 (0, 0))) ∧ Aside0 (wr.heap[gs]? = some (.cells #[.slice A0 l0.length c0, .int .i64 p3, .int .i64 d4] 126 (0, 0))) ∧ Aside0 (wr.heap[gf]? = some (.cells #[.int .i64 v1, .int .i64 0, .slice none 0 0, vs] 25 (0, 0))) ∧ Aside0 (wr.heap[gp]? = some (.cells #[.slice Ap q.length cp, .int .i64 a_, .int .i64 c_] 126 (0, 0))) ∧ Aside0 (Kd.R (Kd.int .u8) 5 wr w.heap.size (fun _ => True) (.slice Ap q.length cp) (q)) ∧ Aside0 (Kd.R k122 122 wr w.heap.size (fun _ => True) vs st))
                case atStart => exact ⟨0, 0, [], .slice none 0 0, HL0, ⟨Nat.le_refl _⟩, ⟨(by repeat (first | (with_reducible first | exact HB.out | apply below_alloc | apply pw_below_drewN | apply below_drew1 | refine below_set ?_ GE_BR.out | refine below_set ?_ GE_BS.out | refine below_set ?_ GE_BF.out | refine below_set ?_ GE_BP.out) | exact HB.out))⟩, ⟨(by (with_reducible repeat (first | refine blk_drewN ?_ _ | refine blk_drew ?_ | refine blk_alloc ?_ _)); exact BR.out)⟩, ⟨(by (with_reducible repeat (first | refine blk_drewN ?_ _ | refine blk_drew ?_ | refine blk_alloc ?_ _)); exact BS.out)⟩, ⟨(by (with_reducible repeat (first | refine blk_drewN ?_ _ | refine blk_drew ?_ | refine blk_alloc ?_ _)); exact BF.out)⟩, ⟨(by (with_reducible repeat (first | refine blk_drewN ?_ _ | refine blk_drew ?_ | refine blk_alloc ?_ _)); exact BP.out)⟩, ⟨(by (with_reducible repeat (first | apply Kd.R_alloc | apply Kd.R_drewN | apply Kd.R_drew)); exact HQ.out)⟩, ⟨Kd.R_nil _ _ _ _ _⟩⟩
                case round =>
                  clear HL0 HB BR BS BF BP HQ
                  obtain ⟨a_, c_, st, vs, HA, HK1, HB, BR, BS, BF, BP, HQ, VS⟩ := hrel
                  obtain ⟨As, cs, rfl⟩ := Kd.R_slice VS.out
                  cases gk with
                  | zero => exact absurd HA.out (by simp [impl_rh.loop])
                  | succ k1 =>
                    have h6 := HA.out
                    clear HA
                    simp only [impl_rh.loop] at h6
                    by_cases c6 : 0 ≤ a_ ∧ a_ ≤ (q.length : Int) ∧ q.length ≤ 1000000 ∧ st.length ≤ 1000000
                    · rw [if_pos c6] at h6
                      have HST := Aside0.mk c6.2.2.2
                      clear c6
                      have z167 : wr.cell? ⟨gf, 0, none⟩ = some (.int .i64 v1) := (blk_cell BF.out 0).trans rfl
                      have zf168 := blk_frozen BF.out 0
                      have z169 : wr.cell? ⟨gf, 1, none⟩ = some (.int .i64 0) := (blk_cell BF.out 1).trans rfl
                      have zf170 := blk_frozen BF.out 1
                      have z171 : wr.cell? ⟨gf, 2, none⟩ = some (.slice none 0 0) := (blk_cell BF.out 2).trans rfl
                      have zf172 := blk_frozen BF.out 2
                      have z173 : wr.cell? ⟨gf, 3, none⟩ = some (.slice As st.length cs) := (blk_cell BF.out 3).trans rfl
                      have zf174 := blk_frozen BF.out 3
                      have z175 : wr.cell? ⟨gp, 0, none⟩ = some (.slice Ap q.length cp) := (blk_cell BP.out 0).trans rfl
                      have zf176 := blk_frozen BP.out 0
                      have z177 : wr.cell? ⟨gp, 1, none⟩ = some (.int .i64 a_) := (blk_cell BP.out 1).trans rfl
                      have zf178 := blk_frozen BP.out 1
                      have z179 : wr.cell? ⟨gp, 2, none⟩ = some (.int .i64 c_) := (blk_cell BP.out 2).trans rfl
                      have zf180 := blk_frozen BP.out 2
                      by_cases c7 : a_ < (q.length : Int) ∧ c_ = 0 ∧ st.length ≤ 16
                      · rw [if_pos c7] at h6
                        obtain ⟨c7a, c7b, c7c⟩ := c7
                        have q11 : decide (a_ < (q.length : Int)) = true := decide_eq_true c7a
                        have q12 : (c_ == 0) = true := by rw [c7b]; rfl
                        have q13 : decide ((st.length : Int) ≤ 16) = true := decide_eq_true (by omega)
                        have q14 : decide (st.length ≤ 16) = true := decide_eq_true c7c
                        clear c7a c7b c7c
                        obtain ⟨⟨x1, a2, c2⟩, hn1_, h6⟩ := Option.bind_eq_some_iff.1 h6
                        obtain ⟨⟨x2, a3, c3⟩, hn2_, h6⟩ := Option.bind_eq_some_iff.1 h6
                        have HN1 := Aside0.mk hn1_
                        have HN2 := Aside0.mk hn2_
                        have H6 := Aside0.mk h6
                        clear hn1_ hn2_ h6
                        go_wp2
                        go_quiet (fail)
                        go_upto_region 19 with (first | (go_at_call 73; refine (impl_rh.num_calls k1 gp Ap cp q a_ c_ x1 a2 c2 _ (show (_ : World).heap[gp]? = some (.cells #[.slice Ap q.length cp, .int .i64 a_, .int .i64 c_] 126 (0, 0)) from (by (with_reducible repeat (first | refine blk_drewN ?_ _ | refine blk_drew ?_ | refine blk_alloc ?_ _)); exact BP.out)) (Kd.R_reads' (by (with_reducible repeat (first | apply Kd.R_alloc | apply Kd.R_drewN | apply Kd.R_drew)); exact HQ.out)).2.2 HLP.out HN1.out).mono ?_; rintro e w21 ⟨rfl, hg_, hk_⟩; have m0_ := Aside0.mk (show Below w.heap.size w w21 from (show Below w.heap.size w _ from by repeat (first | (with_reducible first | exact HB.out | apply below_alloc | apply pw_below_drewN | apply below_drew1 | refine below_set ?_ GE_BR.out | refine below_set ?_ GE_BS.out | refine below_set ?_ GE_BF.out | refine below_set ?_ GE_BP.out) | exact HB.out)).trans (hk_.below GE_BP.out)); have m1_ := Aside0.mk (show w21.heap[gr]? = some (.cells #[.int .i64 0, .int .i64 0, .slice none 0 0, .slice none 0 0] 25 (0, 0)) from hk_.blk (by (with_reducible repeat (first | refine blk_drewN ?_ _ | refine blk_drew ?_ | refine blk_alloc ?_ _)); exact BR.out) NE_BR_BP.out); have m2_ := Aside0.mk (show w21.heap[gs]? = some (.cells #[.slice A0 l0.length c0, .int .i64 p3, .int .i64 d4] 126 (0, 0)) from hk_.blk (by (with_reducible repeat (first | refine blk_drewN ?_ _ | refine blk_drew ?_ | refine blk_alloc ?_ _)); exact BS.out) NE_BS_BP.out); have m3_ := Aside0.mk (show w21.heap[gf]? = some (.cells #[.int .i64 v1, .int .i64 0, .slice none 0 0, .slice As st.length cs] 25 (0, 0)) from hk_.blk (by (with_reducible repeat (first | refine blk_drewN ?_ _ | refine blk_drew ?_ | refine blk_alloc ?_ _)); exact BF.out) NE_BF_BP.out); have m4_ := Aside0.mk (show Kd.R (Kd.int .u8) 5 w21 w.heap.size (fun _ => True) (.slice Ap q.length cp) (q) from Kd.R_mono (Kd.R_keep (Kd.R_types (by (with_reducible repeat (first | apply Kd.R_alloc | apply Kd.R_drewN | apply Kd.R_drew)); exact HQ.out) (show (_ : World).heap[gp]? = some (.cells #[.slice Ap q.length cp, .int .i64 a_, .int .i64 c_] 126 (0, 0)) from (by (with_reducible repeat (first | refine blk_drewN ?_ _ | refine blk_drew ?_ | refine blk_alloc ?_ _)); exact BP.out)) (by decide)) hk_.1 (fun _ h_ => h_.2)) (fun _ _ => trivial)); have m5_ := Aside0.mk (show Kd.R k122 122 w21 w.heap.size (fun _ => True) (.slice As st.length cs) (st) from Kd.R_mono (Kd.R_keep (Kd.R_types (by (with_reducible repeat (first | apply Kd.R_alloc | apply Kd.R_drewN | apply Kd.R_drew)); exact VS.out) (show (_ : World).heap[gp]? = some (.cells #[.slice Ap q.length cp, .int .i64 a_, .int .i64 c_] 126 (0, 0)) from (by (with_reducible repeat (first | refine blk_drewN ?_ _ | refine blk_drew ?_ | refine blk_alloc ?_ _)); exact BP.out)) (by decide)) hk_.1 (fun _ h_ => h_.2)) (fun _ _ => trivial)); have m6_ := Aside0.mk (show w21.heap[gp]? = some (.cells #[.slice Ap q.length cp, .int .i64 a2, .int .i64 c2] 126 (0, 0)) from hg_); clear HB; clear BR; clear BS; clear BF; clear HQ; clear VS; clear BP; have HB := m0_; have BR := m1_; have BS := m2_; have BF := m3_; have HQ := m4_; have VS := m5_; have BP := m6_; clear m0_ m1_ m2_ m3_ m4_ m5_ m6_; clear hg_ hk_; have z181 : w21.cell? ⟨gr, 0, none⟩ = some (.int .i64 0) := (blk_cell BR.out 0).trans rfl; have zf182 := blk_frozen BR.out 0; have z183 : w21.cell? ⟨gr, 1, none⟩ = some (.int .i64 0) := (blk_cell BR.out 1).trans rfl; have zf184 := blk_frozen BR.out 1; have z185 : w21.cell? ⟨gr, 2, none⟩ = some (.slice none 0 0) := (blk_cell BR.out 2).trans rfl; have zf186 := blk_frozen BR.out 2; have z187 : w21.cell? ⟨gr, 3, none⟩ = some (.slice none 0 0) := (blk_cell BR.out 3).trans rfl; have zf188 := blk_frozen BR.out 3; have z189 : w21.cell? ⟨gs, 0, none⟩ = some (.slice A0 l0.length c0) := (blk_cell BS.out 0).trans rfl; have zf190 := blk_frozen BS.out 0; have z191 : w21.cell? ⟨gs, 1, none⟩ = some (.int .i64 p3) := (blk_cell BS.out 1).trans rfl; have zf192 := blk_frozen BS.out 1; have z193 : w21.cell? ⟨gs, 2, none⟩ = some (.int .i64 d4) := (blk_cell BS.out 2).trans rfl; have zf194 := blk_frozen BS.out 2; have z195 : w21.cell? ⟨gf, 0, none⟩ = some (.int .i64 v1) := (blk_cell BF.out 0).trans rfl; have zf196 := blk_frozen BF.out 0; have z197 : w21.cell? ⟨gf, 1, none⟩ = some (.int .i64 0) := (blk_cell BF.out 1).trans rfl; have zf198 := blk_frozen BF.out 1; have z199 : w21.cell? ⟨gf, 2, none⟩ = some (.slice none 0 0) := (blk_cell BF.out 2).trans rfl; have zf200 := blk_frozen BF.out 2; have z201 : w21.cell? ⟨gf, 3, none⟩ = some (.slice As st.length cs) := (blk_cell BF.out 3).trans rfl; have zf202 := blk_frozen BF.out 3; have z203 : w21.cell? ⟨gp, 0, none⟩ = some (.slice Ap q.length cp) := (blk_cell BP.out 0).trans rfl; have zf204 := blk_frozen BP.out 0; have z205 : w21.cell? ⟨gp, 1, none⟩ = some (.int .i64 a2) := (blk_cell BP.out 1).trans rfl; have zf206 := blk_frozen BP.out 1; have z207 : w21.cell? ⟨gp, 2, none⟩ = some (.int .i64 c2) := (blk_cell BP.out 2).trans rfl; have zf208 := blk_frozen BP.out 2))
                        refine wp_region_held_drew (S := fun _ => True) (by kernel_rfl) trivial (fun _ => ?_)
                        refine wpAnyH_take (i := 0) (v := ?_) rfl (by kernel_rfl) (by kernel_rfl) (by kernel_rfl) (fun _ _ _ h => h) (Or.inl ⟨by rfl, ?_⟩) trivial ?_
                        rotate_left
                        · intro w_ _
                          try simp only [List.getElem_toArray, List.getElem_cons_zero, List.getElem_cons_succ]
                          go_simp
                          with_reducible rfl
                        rotate_left
                        try simp only [List.getElem_toArray, List.getElem_cons_zero, List.getElem_cons_succ]
                        try simp only [Act.put, List.setIfInBounds_toArray, List.set_cons_zero, List.set_cons_succ]
                        refine wpAnyH_take (i := 2) (v := ?_) rfl (by kernel_rfl) (by kernel_rfl) (by kernel_rfl) (fun _ _ _ h => h) (Or.inl ⟨by rfl, ?_⟩) trivial ?_
                        rotate_left
                        · intro w_ _
                          try simp only [List.getElem_toArray, List.getElem_cons_zero, List.getElem_cons_succ]
                          go_simp
                          with_reducible rfl
                        rotate_left
                        try simp only [List.getElem_toArray, List.getElem_cons_zero, List.getElem_cons_succ]
                        try simp only [Act.put, List.setIfInBounds_toArray, List.set_cons_zero, List.set_cons_succ]
                        refine wpAnyH_take (i := 3) (v := ?_) rfl (by kernel_rfl) (by kernel_rfl) (by kernel_rfl) (fun _ _ _ h => h) (Or.inl ⟨by rfl, ?_⟩) trivial ?_
                        rotate_left
                        · intro w_ _
                          try simp only [List.getElem_toArray, List.getElem_cons_zero, List.getElem_cons_succ]
                          go_simp
                          with_reducible rfl
                        rotate_left
                        try simp only [List.getElem_toArray, List.getElem_cons_zero, List.getElem_cons_succ]
                        try simp only [Act.put, List.setIfInBounds_toArray, List.set_cons_zero, List.set_cons_succ]
                        refine wpAnyH_ready (rs := [1, 4]) (by kernel_rfl) (by simp) ?_
                        refine AllReadyH.cons rfl (fun K hK => ?_) ?_
                        · try simp only [List.getElem_toArray, List.getElem_cons_zero, List.getElem_cons_succ]
                          go_simp
                          refine hK.out _ _ trivial (fun _ => ?_)
                          clear hK K
                          try simp only [Act.put, List.setIfInBounds_toArray, List.set_cons_zero, List.set_cons_succ]
                          refine wpAnyH_ready (rs := [4]) (by kernel_rfl) (by simp) ?_
                          refine AllReadyH.cons rfl (fun K hK => ?_) ?_
                          · first
                              | (go_at_call 73; refine (impl_rh.num_calls k1 gp Ap cp q a2 c2 x2 a3 c3 _ (show (_ : World).heap[gp]? = some (.cells #[.slice Ap q.length cp, .int .i64 a2, .int .i64 c2] 126 (0, 0)) from (by (with_reducible repeat (first | refine blk_drewN ?_ _ | refine blk_drew ?_ | refine blk_alloc ?_ _)); exact BP.out)) (Kd.R_reads' (by (with_reducible repeat (first | apply Kd.R_alloc | apply Kd.R_drewN | apply Kd.R_drew)); exact HQ.out)).2.2 HLP.out HN2.out).mono ?_; rintro e w22 ⟨rfl, hg_, hk_⟩; have m0_ := Aside0.mk (show Below w.heap.size w w22 from (show Below w.heap.size w _ from by repeat (first | (with_reducible first | exact HB.out | apply below_alloc | apply pw_below_drewN | apply below_drew1 | refine below_set ?_ GE_BR.out | refine below_set ?_ GE_BS.out | refine below_set ?_ GE_BF.out | refine below_set ?_ GE_BP.out) | exact HB.out)).trans (hk_.below GE_BP.out)); have m1_ := Aside0.mk (show w22.heap[gr]? = some (.cells #[.int .i64 0, .int .i64 0, .slice none 0 0, .slice none 0 0] 25 (0, 0)) from hk_.blk (by (with_reducible repeat (first | refine blk_drewN ?_ _ | refine blk_drew ?_ | refine blk_alloc ?_ _)); exact BR.out) NE_BR_BP.out); have m2_ := Aside0.mk (show w22.heap[gs]? = some (.cells #[.slice A0 l0.length c0, .int .i64 p3, .int .i64 d4] 126 (0, 0)) from hk_.blk (by (with_reducible repeat (first | refine blk_drewN ?_ _ | refine blk_drew ?_ | refine blk_alloc ?_ _)); exact BS.out) NE_BS_BP.out); have m3_ := Aside0.mk (show w22.heap[gf]? = some (.cells #[.int .i64 v1, .int .i64 0, .slice none 0 0, .slice As st.length cs] 25 (0, 0)) from hk_.blk (by (with_reducible repeat (first | refine blk_drewN ?_ _ | refine blk_drew ?_ | refine blk_alloc ?_ _)); exact BF.out) NE_BF_BP.out); have m4_ := Aside0.mk (show Kd.R (Kd.int .u8) 5 w22 w.heap.size (fun _ => True) (.slice Ap q.length cp) (q) from Kd.R_mono (Kd.R_keep (Kd.R_types (by (with_reducible repeat (first | apply Kd.R_alloc | apply Kd.R_drewN | apply Kd.R_drew)); exact HQ.out) (show (_ : World).heap[gp]? = some (.cells #[.slice Ap q.length cp, .int .i64 a2, .int .i64 c2] 126 (0, 0)) from (by (with_reducible repeat (first | refine blk_drewN ?_ _ | refine blk_drew ?_ | refine blk_alloc ?_ _)); exact BP.out)) (by decide)) hk_.1 (fun _ h_ => h_.2)) (fun _ _ => trivial)); have m5_ := Aside0.mk (show Kd.R k122 122 w22 w.heap.size (fun _ => True) (.slice As st.length cs) (st) from Kd.R_mono (Kd.R_keep (Kd.R_types (by (with_reducible repeat (first | apply Kd.R_alloc | apply Kd.R_drewN | apply Kd.R_drew)); exact VS.out) (show (_ : World).heap[gp]? = some (.cells #[.slice Ap q.length cp, .int .i64 a2, .int .i64 c2] 126 (0, 0)) from (by (with_reducible repeat (first | refine blk_drewN ?_ _ | refine blk_drew ?_ | refine blk_alloc ?_ _)); exact BP.out)) (by decide)) hk_.1 (fun _ h_ => h_.2)) (fun _ _ => trivial)); have m6_ := Aside0.mk (show w22.heap[gp]? = some (.cells #[.slice Ap q.length cp, .int .i64 a3, .int .i64 c3] 126 (0, 0)) from hg_); clear HB; clear BR; clear BS; clear BF; clear HQ; clear VS; clear BP; have HB := m0_; have BR := m1_; have BS := m2_; have BF := m3_; have HQ := m4_; have VS := m5_; have BP := m6_; clear m0_ m1_ m2_ m3_ m4_ m5_ m6_; clear hg_ hk_; have z209 : w22.cell? ⟨gr, 0, none⟩ = some (.int .i64 0) := (blk_cell BR.out 0).trans rfl; have zf210 := blk_frozen BR.out 0; have z211 : w22.cell? ⟨gr, 1, none⟩ = some (.int .i64 0) := (blk_cell BR.out 1).trans rfl; have zf212 := blk_frozen BR.out 1; have z213 : w22.cell? ⟨gr, 2, none⟩ = some (.slice none 0 0) := (blk_cell BR.out 2).trans rfl; have zf214 := blk_frozen BR.out 2; have z215 : w22.cell? ⟨gr, 3, none⟩ = some (.slice none 0 0) := (blk_cell BR.out 3).trans rfl; have zf216 := blk_frozen BR.out 3; have z217 : w22.cell? ⟨gs, 0, none⟩ = some (.slice A0 l0.length c0) := (blk_cell BS.out 0).trans rfl; have zf218 := blk_frozen BS.out 0; have z219 : w22.cell? ⟨gs, 1, none⟩ = some (.int .i64 p3) := (blk_cell BS.out 1).trans rfl; have zf220 := blk_frozen BS.out 1; have z221 : w22.cell? ⟨gs, 2, none⟩ = some (.int .i64 d4) := (blk_cell BS.out 2).trans rfl; have zf222 := blk_frozen BS.out 2; have z223 : w22.cell? ⟨gf, 0, none⟩ = some (.int .i64 v1) := (blk_cell BF.out 0).trans rfl; have zf224 := blk_frozen BF.out 0; have z225 : w22.cell? ⟨gf, 1, none⟩ = some (.int .i64 0) := (blk_cell BF.out 1).trans rfl; have zf226 := blk_frozen BF.out 1; have z227 : w22.cell? ⟨gf, 2, none⟩ = some (.slice none 0 0) := (blk_cell BF.out 2).trans rfl; have zf228 := blk_frozen BF.out 2; have z229 : w22.cell? ⟨gf, 3, none⟩ = some (.slice As st.length cs) := (blk_cell BF.out 3).trans rfl; have zf230 := blk_frozen BF.out 3; have z231 : w22.cell? ⟨gp, 0, none⟩ = some (.slice Ap q.length cp) := (blk_cell BP.out 0).trans rfl; have zf232 := blk_frozen BP.out 0; have z233 : w22.cell? ⟨gp, 1, none⟩ = some (.int .i64 a3) := (blk_cell BP.out 1).trans rfl; have zf234 := blk_frozen BP.out 1; have z235 : w22.cell? ⟨gp, 2, none⟩ = some (.int .i64 c3) := (blk_cell BP.out 2).trans rfl; have zf236 := blk_frozen BP.out 2; have zq_ : (w22.alloc (Obj.cells #[.int .i64 x1, .int .i64 x2] 122)).cell? ⟨gf, 3, none⟩ = some (.slice As st.length cs) := (blk_cell (blk_alloc BF.out _) 3).trans rfl)
                              | (try simp only [List.getElem_toArray, List.getElem_cons_zero, List.getElem_cons_succ]; go_simp; (go_at_call 73; refine (impl_rh.num_calls k1 gp Ap cp q a2 c2 x2 a3 c3 _ (show (_ : World).heap[gp]? = some (.cells #[.slice Ap q.length cp, .int .i64 a2, .int .i64 c2] 126 (0, 0)) from (by (with_reducible repeat (first | refine blk_drewN ?_ _ | refine blk_drew ?_ | refine blk_alloc ?_ _)); exact BP.out)) (Kd.R_reads' (by (with_reducible repeat (first | apply Kd.R_alloc | apply Kd.R_drewN | apply Kd.R_drew)); exact HQ.out)).2.2 HLP.out HN2.out).mono ?_; rintro e w22 ⟨rfl, hg_, hk_⟩; have m0_ := Aside0.mk (show Below w.heap.size w w22 from (show Below w.heap.size w _ from by repeat (first | (with_reducible first | exact HB.out | apply below_alloc | apply pw_below_drewN | apply below_drew1 | refine below_set ?_ GE_BR.out | refine below_set ?_ GE_BS.out | refine below_set ?_ GE_BF.out | refine below_set ?_ GE_BP.out) | exact HB.out)).trans (hk_.below GE_BP.out)); have m1_ := Aside0.mk (show w22.heap[gr]? = some (.cells #[.int .i64 0, .int .i64 0, .slice none 0 0, .slice none 0 0] 25 (0, 0)) from hk_.blk (by (with_reducible repeat (first | refine blk_drewN ?_ _ | refine blk_drew ?_ | refine blk_alloc ?_ _)); exact BR.out) NE_BR_BP.out); have m2_ := Aside0.mk (show w22.heap[gs]? = some (.cells #[.slice A0 l0.length c0, .int .i64 p3, .int .i64 d4] 126 (0, 0)) from hk_.blk (by (with_reducible repeat (first | refine blk_drewN ?_ _ | refine blk_drew ?_ | refine blk_alloc ?_ _)); exact BS.out) NE_BS_BP.out); have m3_ := Aside0.mk (show w22.heap[gf]? = some (.cells #[.int .i64 v1, .int .i64 0, .slice none 0 0, .slice As st.length cs] 25 (0, 0)) from hk_.blk (by (with_reducible repeat (first | refine blk_drewN ?_ _ | refine blk_drew ?_ | refine blk_alloc ?_ _)); exact BF.out) NE_BF_BP.out); have m4_ := Aside0.mk (show Kd.R (Kd.int .u8) 5 w22 w.heap.size (fun _ => True) (.slice Ap q.length cp) (q) from Kd.R_mono (Kd.R_keep (Kd.R_types (by (with_reducible repeat (first | apply Kd.R_alloc | apply Kd.R_drewN | apply Kd.R_drew)); exact HQ.out) (show (_ : World).heap[gp]? = some (.cells #[.slice Ap q.length cp, .int .i64 a2, .int .i64 c2] 126 (0, 0)) from (by (with_reducible repeat (first | refine blk_drewN ?_ _ | refine blk_drew ?_ | refine blk_alloc ?_ _)); exact BP.out)) (by decide)) hk_.1 (fun _ h_ => h_.2)) (fun _ _ => trivial)); have m5_ := Aside0.mk (show Kd.R k122 122 w22 w.heap.size (fun _ => True) (.slice As st.length cs) (st) from Kd.R_mono (Kd.R_keep (Kd.R_types (by (with_reducible repeat (first | apply Kd.R_alloc | apply Kd.R_drewN | apply Kd.R_drew)); exact VS.out) (show (_ : World).heap[gp]? = some (.cells #[.slice Ap q.length cp, .int .i64 a2, .int .i64 c2] 126 (0, 0)) from (by (with_reducible repeat (first | refine blk_drewN ?_ _ | refine blk_drew ?_ | refine blk_alloc ?_ _)); exact BP.out)) (by decide)) hk_.1 (fun _ h_ => h_.2)) (fun _ _ => trivial)); have m6_ := Aside0.mk (show w22.heap[gp]? = some (.cells #[.slice Ap q.length cp, .int .i64 a3, .int .i64 c3] 126 (0, 0)) from hg_); clear HB; clear BR; clear BS; clear BF; clear HQ; clear VS; clear BP; have HB := m0_; have BR := m1_; have BS := m2_; have BF := m3_; have HQ := m4_; have VS := m5_; have BP := m6_; clear m0_ m1_ m2_ m3_ m4_ m5_ m6_; clear hg_ hk_; have z209 : w22.cell? ⟨gr, 0, none⟩ = some (.int .i64 0) := (blk_cell BR.out 0).trans rfl; have zf210 := blk_frozen BR.out 0; have z211 : w22.cell? ⟨gr, 1, none⟩ = some (.int .i64 0) := (blk_cell BR.out 1).trans rfl; have zf212 := blk_frozen BR.out 1; have z213 : w22.cell? ⟨gr, 2, none⟩ = some (.slice none 0 0) := (blk_cell BR.out 2).trans rfl; have zf214 := blk_frozen BR.out 2; have z215 : w22.cell? ⟨gr, 3, none⟩ = some (.slice none 0 0) := (blk_cell BR.out 3).trans rfl; have zf216 := blk_frozen BR.out 3; have z217 : w22.cell? ⟨gs, 0, none⟩ = some (.slice A0 l0.length c0) := (blk_cell BS.out 0).trans rfl; have zf218 := blk_frozen BS.out 0; have z219 : w22.cell? ⟨gs, 1, none⟩ = some (.int .i64 p3) := (blk_cell BS.out 1).trans rfl; have zf220 := blk_frozen BS.out 1; have z221 : w22.cell? ⟨gs, 2, none⟩ = some (.int .i64 d4) := (blk_cell BS.out 2).trans rfl; have zf222 := blk_frozen BS.out 2; have z223 : w22.cell? ⟨gf, 0, none⟩ = some (.int .i64 v1) := (blk_cell BF.out 0).trans rfl; have zf224 := blk_frozen BF.out 0; have z225 : w22.cell? ⟨gf, 1, none⟩ = some (.int .i64 0) := (blk_cell BF.out 1).trans rfl; have zf226 := blk_frozen BF.out 1; have z227 : w22.cell? ⟨gf, 2, none⟩ = some (.slice none 0 0) := (blk_cell BF.out 2).trans rfl; have zf228 := blk_frozen BF.out 2; have z229 : w22.cell? ⟨gf, 3, none⟩ = some (.slice As st.length cs) := (blk_cell BF.out 3).trans rfl; have zf230 := blk_frozen BF.out 3; have z231 : w22.cell? ⟨gp, 0, none⟩ = some (.slice Ap q.length cp) := (blk_cell BP.out 0).trans rfl; have zf232 := blk_frozen BP.out 0; have z233 : w22.cell? ⟨gp, 1, none⟩ = some (.int .i64 a3) := (blk_cell BP.out 1).trans rfl; have zf234 := blk_frozen BP.out 1; have z235 : w22.cell? ⟨gp, 2, none⟩ = some (.int .i64 c3) := (blk_cell BP.out 2).trans rfl; have zf236 := blk_frozen BP.out 2; have zq_ : (w22.alloc (Obj.cells #[.int .i64 x1, .int .i64 x2] 122)).cell? ⟨gf, 3, none⟩ = some (.slice As st.length cs) := (blk_cell (blk_alloc BF.out _) 3).trans rfl))
                            try dsimp only
                            refine hK.out _ _ trivial (fun _ => ?_)
                            clear hK K
                            try simp only [Act.put, List.setIfInBounds_toArray, List.set_cons_zero, List.set_cons_succ]
                            refine wpAnyH_take (i := 5) (v := ?_) rfl (by kernel_rfl) (by kernel_rfl) (by kernel_rfl) (fun _ _ _ h => h) (Or.inl ⟨by rfl, ?_⟩) trivial ?_
                            rotate_left
                            · intro w_ _
                              try simp only [List.getElem_toArray, List.getElem_cons_zero, List.getElem_cons_succ]
                              go_simp
                              with_reducible rfl
                            rotate_left
                            try simp only [List.getElem_toArray, List.getElem_cons_zero, List.getElem_cons_succ]
                            try simp only [Act.put, List.setIfInBounds_toArray, List.set_cons_zero, List.set_cons_succ]
                            refine wpAnyH_ready (rs := [6]) (by kernel_rfl) (by simp) ?_
                            refine AllReadyH.cons rfl (fun K hK => ?_) ?_
                            · try simp only [List.getElem_toArray, List.getElem_cons_zero, List.getElem_cons_succ]
                              go_simp
                              refine hK.out _ _ trivial (fun _ => ?_)
                              clear hK K
                              try simp only [Act.put, List.setIfInBounds_toArray, List.set_cons_zero, List.set_cons_succ]
                              refine wpAnyH_ready (rs := [7]) (by kernel_rfl) (by simp) ?_
                              refine AllReadyH.cons rfl (fun K hK => ?_) ?_
                              · (refine Kd.R_append_step k122 (w0 := w) w.heap.size (by rfl) (.tmp 88) (.tmp 93) 23 122 (.agg #[.int .i64 0, .int .i64 0]) 16 rfl Try.underlying23 impl_rh.infoS rfl (by decide) (by omega) (.slice As st.length cs) st (⟨x1, x2⟩ : S122) [.int .i64 x1, .int .i64 x2] (fun _ => True) (fun _ => False) rfl rfl ?aP (fun _ hk => hk.elim) ?aF ?aO ?aB ?aS ?aL ?_; (case aP => exact k122_mkM _ _ _ (⟨x1, x2⟩ : S122)); (case aB => exact (by repeat (first | (with_reducible first | exact HB.out | apply below_alloc | apply pw_below_drewN | apply below_drew1 | refine below_set ?_ GE_BR.out | refine below_set ?_ GE_BS.out | refine below_set ?_ GE_BF.out | refine below_set ?_ GE_BP.out) | exact HB.out))); (case aF => exact (fun _ _ => trivial)); (case aO => exact VS.out); (case aS => exact (below_size (by repeat (first | (with_reducible first | exact HB.out | apply below_alloc | apply pw_below_drewN | apply below_drew1 | refine below_set ?_ GE_BR.out | refine below_set ?_ GE_BS.out | refine below_set ?_ GE_BF.out | refine below_set ?_ GE_BP.out) | exact HB.out)))); (case aL => have := HST.out; omega); intro vS w23 ho hb hg hat; have m0_ := Aside0.mk (show Below w.heap.size w w23 from hb); have m1_ := Aside0.mk (show w23.heap[gr]? = some (.cells #[.int .i64 0, .int .i64 0, .slice none 0 0, .slice none 0 0] 25 (0, 0)) from blk_grown BR.out hg (Kd.R_ne VS.out BR.out (by decide))); have m2_ := Aside0.mk (show w23.heap[gs]? = some (.cells #[.slice A0 l0.length c0, .int .i64 p3, .int .i64 d4] 126 (0, 0)) from blk_grown BS.out hg (Kd.R_ne VS.out BS.out (by decide))); have m3_ := Aside0.mk (show w23.heap[gf]? = some (.cells #[.int .i64 v1, .int .i64 0, .slice none 0 0, .slice As st.length cs] 25 (0, 0)) from blk_grown BF.out hg (Kd.R_ne VS.out BF.out (by decide))); have m4_ := Aside0.mk (show w23.heap[gp]? = some (.cells #[.slice Ap q.length cp, .int .i64 a3, .int .i64 c3] 126 (0, 0)) from blk_grown BP.out hg (Kd.R_ne VS.out BP.out (by decide))); have m5_ := Aside0.mk (show Kd.R (Kd.int .u8) 5 w23 w.heap.size (fun _ => True) (.slice Ap q.length cp) (q) from Kd.R_over' HQ.out (Kd.R_typed VS.out) (by decide) hg); have m6_ := Aside0.mk (show Kd.R k122 122 w23 w.heap.size (fun _ => True) vS (st ++ [⟨x1, x2⟩]) from ho); clear HB; clear BR; clear BS; clear BF; clear BP; clear HQ; clear VS; have HB := m0_; have BR := m1_; have BS := m2_; have BF := m3_; have BP := m4_; have HQ := m5_; have VS := m6_; clear m0_ m1_ m2_ m3_ m4_ m5_ m6_; obtain ⟨As2, cs2, rfl⟩ := Kd.R_slice VS.out; clear ho hb hg hat; have z237 : w23.cell? ⟨gf, 0, none⟩ = some (.int .i64 v1) := (blk_cell BF.out 0).trans rfl; have zf238 := blk_frozen BF.out 0; have z239 : w23.cell? ⟨gf, 1, none⟩ = some (.int .i64 0) := (blk_cell BF.out 1).trans rfl; have zf240 := blk_frozen BF.out 1; have z241 : w23.cell? ⟨gf, 2, none⟩ = some (.slice none 0 0) := (blk_cell BF.out 2).trans rfl; have zf242 := blk_frozen BF.out 2; have z243 : w23.cell? ⟨gf, 3, none⟩ = some (.slice As st.length cs) := (blk_cell BF.out 3).trans rfl; have zf244 := blk_frozen BF.out 3; have z245 : w23.cell? ⟨gp, 0, none⟩ = some (.slice Ap q.length cp) := (blk_cell BP.out 0).trans rfl; have zf246 := blk_frozen BP.out 0; have z247 : w23.cell? ⟨gp, 1, none⟩ = some (.int .i64 a3) := (blk_cell BP.out 1).trans rfl; have zf248 := blk_frozen BP.out 1; have z249 : w23.cell? ⟨gp, 2, none⟩ = some (.int .i64 c3) := (blk_cell BP.out 2).trans rfl; have zf250 := blk_frozen BP.out 2)
                                refine hK.out _ _ trivial (fun _ => ?_)
                                clear hK K
                                try simp only [Act.put, List.setIfInBounds_toArray, List.set_cons_zero, List.set_cons_succ]
                                refine wpAnyH_take (i := 8) (v := ?_) rfl (by kernel_rfl) (by kernel_rfl) (by kernel_rfl) (fun _ _ _ h => h) (Or.inl ⟨by rfl, ?_⟩) trivial ?_
                                rotate_left
                                · intro w_ _
                                  try simp only [List.getElem_toArray, List.getElem_cons_zero, List.getElem_cons_succ]
                                  go_simp
                                  with_reducible rfl
                                rotate_left
                                try simp only [List.getElem_toArray, List.getElem_cons_zero, List.getElem_cons_succ]
                                try simp only [Act.put, List.setIfInBounds_toArray, List.set_cons_zero, List.set_cons_succ]
                                refine wpAnyH_ready (rs := [9]) (by kernel_rfl) (by simp) ?_
                                refine AllReadyH.cons rfl (fun K hK => ?_) ?_
                                · try simp only [List.getElem_toArray, List.getElem_cons_zero, List.getElem_cons_succ]
                                  go_simp
                                  refine hK.out _ _ trivial (fun _ => ?_)
                                  clear hK K
                                  try simp only [Act.put, List.setIfInBounds_toArray, List.set_cons_zero, List.set_cons_succ]
                                  refine wpAnyH_done (by kernel_rfl) ?_ _
                                  go_wp2
                                  go_roundg k1
                                  case measure => have := HK1.out; omega
                                  case rel => exact ⟨a3, c3, st ++ [⟨x1, x2⟩], .slice As2 (st ++ [(⟨x1, x2⟩ : S122)]).length cs2, H6, ⟨by have := HK1.out; omega⟩, ⟨(by repeat (first | (with_reducible first | exact HB.out | apply below_alloc | apply pw_below_drewN | apply below_drew1 | refine below_set ?_ GE_BR.out | refine below_set ?_ GE_BS.out | refine below_set ?_ GE_BF.out | refine below_set ?_ GE_BP.out) | exact HB.out))⟩, ⟨(by (with_reducible repeat (first | refine blk_drewN ?_ _ | refine blk_drew ?_ | refine blk_alloc ?_ _ | refine blk_far ?_ NE_BR_BF.out _)); exact BR.out)⟩, ⟨(by (with_reducible repeat (first | refine blk_drewN ?_ _ | refine blk_drew ?_ | refine blk_alloc ?_ _ | refine blk_far ?_ NE_BS_BF.out _)); exact BS.out)⟩, ⟨(by have e_ : (st ++ [(⟨x1, x2⟩ : S122)]).length = st.length + 1 := (by simp); rw [e_]; exact blk_put (cs := #[.int .i64 v1, .int .i64 0, .slice none 0 0, .slice As st.length cs]) BF.out 3 _ rfl)⟩, ⟨(by (with_reducible repeat (first | refine blk_drewN ?_ _ | refine blk_drew ?_ | refine blk_alloc ?_ _ | refine blk_far ?_ NE_BP_BF.out _)); exact BP.out)⟩, ⟨Kd.R_set HQ.out BF.out (by decide) 3 _⟩, ⟨Kd.R_set VS.out BF.out (by decide) 3 _⟩⟩
                                exact AllReadyH.nil
                              exact AllReadyH.nil
                            exact AllReadyH.nil
                          exact AllReadyH.nil
                        refine AllReadyH.cons rfl (fun K hK => ?_) ?_
                        · first
                            | (go_at_call 73; refine (impl_rh.num_calls k1 gp Ap cp q a2 c2 x2 a3 c3 _ (show (_ : World).heap[gp]? = some (.cells #[.slice Ap q.length cp, .int .i64 a2, .int .i64 c2] 126 (0, 0)) from (by (with_reducible repeat (first | refine blk_drewN ?_ _ | refine blk_drew ?_ | refine blk_alloc ?_ _)); exact BP.out)) (Kd.R_reads' (by (with_reducible repeat (first | apply Kd.R_alloc | apply Kd.R_drewN | apply Kd.R_drew)); exact HQ.out)).2.2 HLP.out HN2.out).mono ?_; rintro e w22 ⟨rfl, hg_, hk_⟩; have m0_ := Aside0.mk (show Below w.heap.size w w22 from (show Below w.heap.size w _ from by repeat (first | (with_reducible first | exact HB.out | apply below_alloc | apply pw_below_drewN | apply below_drew1 | refine below_set ?_ GE_BR.out | refine below_set ?_ GE_BS.out | refine below_set ?_ GE_BF.out | refine below_set ?_ GE_BP.out) | exact HB.out)).trans (hk_.below GE_BP.out)); have m1_ := Aside0.mk (show w22.heap[gr]? = some (.cells #[.int .i64 0, .int .i64 0, .slice none 0 0, .slice none 0 0] 25 (0, 0)) from hk_.blk (by (with_reducible repeat (first | refine blk_drewN ?_ _ | refine blk_drew ?_ | refine blk_alloc ?_ _)); exact BR.out) NE_BR_BP.out); have m2_ := Aside0.mk (show w22.heap[gs]? = some (.cells #[.slice A0 l0.length c0, .int .i64 p3, .int .i64 d4] 126 (0, 0)) from hk_.blk (by (with_reducible repeat (first | refine blk_drewN ?_ _ | refine blk_drew ?_ | refine blk_alloc ?_ _)); exact BS.out) NE_BS_BP.out); have m3_ := Aside0.mk (show w22.heap[gf]? = some (.cells #[.int .i64 v1, .int .i64 0, .slice none 0 0, .slice As st.length cs] 25 (0, 0)) from hk_.blk (by (with_reducible repeat (first | refine blk_drewN ?_ _ | refine blk_drew ?_ | refine blk_alloc ?_ _)); exact BF.out) NE_BF_BP.out); have m4_ := Aside0.mk (show Kd.R (Kd.int .u8) 5 w22 w.heap.size (fun _ => True) (.slice Ap q.length cp) (q) from Kd.R_mono (Kd.R_keep (Kd.R_types (by (with_reducible repeat (first | apply Kd.R_alloc | apply Kd.R_drewN | apply Kd.R_drew)); exact HQ.out) (show (_ : World).heap[gp]? = some (.cells #[.slice Ap q.length cp, .int .i64 a2, .int .i64 c2] 126 (0, 0)) from (by (with_reducible repeat (first | refine blk_drewN ?_ _ | refine blk_drew ?_ | refine blk_alloc ?_ _)); exact BP.out)) (by decide)) hk_.1 (fun _ h_ => h_.2)) (fun _ _ => trivial)); have m5_ := Aside0.mk (show Kd.R k122 122 w22 w.heap.size (fun _ => True) (.slice As st.length cs) (st) from Kd.R_mono (Kd.R_keep (Kd.R_types (by (with_reducible repeat (first | apply Kd.R_alloc | apply Kd.R_drewN | apply Kd.R_drew)); exact VS.out) (show (_ : World).heap[gp]? = some (.cells #[.slice Ap q.length cp, .int .i64 a2, .int .i64 c2] 126 (0, 0)) from (by (with_reducible repeat (first | refine blk_drewN ?_ _ | refine blk_drew ?_ | refine blk_alloc ?_ _)); exact BP.out)) (by decide)) hk_.1 (fun _ h_ => h_.2)) (fun _ _ => trivial)); have m6_ := Aside0.mk (show w22.heap[gp]? = some (.cells #[.slice Ap q.length cp, .int .i64 a3, .int .i64 c3] 126 (0, 0)) from hg_); clear HB; clear BR; clear BS; clear BF; clear HQ; clear VS; clear BP; have HB := m0_; have BR := m1_; have BS := m2_; have BF := m3_; have HQ := m4_; have VS := m5_; have BP := m6_; clear m0_ m1_ m2_ m3_ m4_ m5_ m6_; clear hg_ hk_; have z209 : w22.cell? ⟨gr, 0, none⟩ = some (.int .i64 0) := (blk_cell BR.out 0).trans rfl; have zf210 := blk_frozen BR.out 0; have z211 : w22.cell? ⟨gr, 1, none⟩ = some (.int .i64 0) := (blk_cell BR.out 1).trans rfl; have zf212 := blk_frozen BR.out 1; have z213 : w22.cell? ⟨gr, 2, none⟩ = some (.slice none 0 0) := (blk_cell BR.out 2).trans rfl; have zf214 := blk_frozen BR.out 2; have z215 : w22.cell? ⟨gr, 3, none⟩ = some (.slice none 0 0) := (blk_cell BR.out 3).trans rfl; have zf216 := blk_frozen BR.out 3; have z217 : w22.cell? ⟨gs, 0, none⟩ = some (.slice A0 l0.length c0) := (blk_cell BS.out 0).trans rfl; have zf218 := blk_frozen BS.out 0; have z219 : w22.cell? ⟨gs, 1, none⟩ = some (.int .i64 p3) := (blk_cell BS.out 1).trans rfl; have zf220 := blk_frozen BS.out 1; have z221 : w22.cell? ⟨gs, 2, none⟩ = some (.int .i64 d4) := (blk_cell BS.out 2).trans rfl; have zf222 := blk_frozen BS.out 2; have z223 : w22.cell? ⟨gf, 0, none⟩ = some (.int .i64 v1) := (blk_cell BF.out 0).trans rfl; have zf224 := blk_frozen BF.out 0; have z225 : w22.cell? ⟨gf, 1, none⟩ = some (.int .i64 0) := (blk_cell BF.out 1).trans rfl; have zf226 := blk_frozen BF.out 1; have z227 : w22.cell? ⟨gf, 2, none⟩ = some (.slice none 0 0) := (blk_cell BF.out 2).trans rfl; have zf228 := blk_frozen BF.out 2; have z229 : w22.cell? ⟨gf, 3, none⟩ = some (.slice As st.length cs) := (blk_cell BF.out 3).trans rfl; have zf230 := blk_frozen BF.out 3; have z231 : w22.cell? ⟨gp, 0, none⟩ = some (.slice Ap q.length cp) := (blk_cell BP.out 0).trans rfl; have zf232 := blk_frozen BP.out 0; have z233 : w22.cell? ⟨gp, 1, none⟩ = some (.int .i64 a3) := (blk_cell BP.out 1).trans rfl; have zf234 := blk_frozen BP.out 1; have z235 : w22.cell? ⟨gp, 2, none⟩ = some (.int .i64 c3) := (blk_cell BP.out 2).trans rfl; have zf236 := blk_frozen BP.out 2; have zq_ : (w22.alloc (Obj.cells #[.int .i64 x1, .int .i64 x2] 122)).cell? ⟨gf, 3, none⟩ = some (.slice As st.length cs) := (blk_cell (blk_alloc BF.out _) 3).trans rfl)
                            | (try simp only [List.getElem_toArray, List.getElem_cons_zero, List.getElem_cons_succ]; go_simp; (go_at_call 73; refine (impl_rh.num_calls k1 gp Ap cp q a2 c2 x2 a3 c3 _ (show (_ : World).heap[gp]? = some (.cells #[.slice Ap q.length cp, .int .i64 a2, .int .i64 c2] 126 (0, 0)) from (by (with_reducible repeat (first | refine blk_drewN ?_ _ | refine blk_drew ?_ | refine blk_alloc ?_ _)); exact BP.out)) (Kd.R_reads' (by (with_reducible repeat (first | apply Kd.R_alloc | apply Kd.R_drewN | apply Kd.R_drew)); exact HQ.out)).2.2 HLP.out HN2.out).mono ?_; rintro e w22 ⟨rfl, hg_, hk_⟩; have m0_ := Aside0.mk (show Below w.heap.size w w22 from (show Below w.heap.size w _ from by repeat (first | (with_reducible first | exact HB.out | apply below_alloc | apply pw_below_drewN | apply below_drew1 | refine below_set ?_ GE_BR.out | refine below_set ?_ GE_BS.out | refine below_set ?_ GE_BF.out | refine below_set ?_ GE_BP.out) | exact HB.out)).trans (hk_.below GE_BP.out)); have m1_ := Aside0.mk (show w22.heap[gr]? = some (.cells #[.int .i64 0, .int .i64 0, .slice none 0 0, .slice none 0 0] 25 (0, 0)) from hk_.blk (by (with_reducible repeat (first | refine blk_drewN ?_ _ | refine blk_drew ?_ | refine blk_alloc ?_ _)); exact BR.out) NE_BR_BP.out); have m2_ := Aside0.mk (show w22.heap[gs]? = some (.cells #[.slice A0 l0.length c0, .int .i64 p3, .int .i64 d4] 126 (0, 0)) from hk_.blk (by (with_reducible repeat (first | refine blk_drewN ?_ _ | refine blk_drew ?_ | refine blk_alloc ?_ _)); exact BS.out) NE_BS_BP.out); have m3_ := Aside0.mk (show w22.heap[gf]? = some (.cells #[.int .i64 v1, .int .i64 0, .slice none 0 0, .slice As st.length cs] 25 (0, 0)) from hk_.blk (by (with_reducible repeat (first | refine blk_drewN ?_ _ | refine blk_drew ?_ | refine blk_alloc ?_ _)); exact BF.out) NE_BF_BP.out); have m4_ := Aside0.mk (show Kd.R (Kd.int .u8) 5 w22 w.heap.size (fun _ => True) (.slice Ap q.length cp) (q) from Kd.R_mono (Kd.R_keep (Kd.R_types (by (with_reducible repeat (first | apply Kd.R_alloc | apply Kd.R_drewN | apply Kd.R_drew)); exact HQ.out) (show (_ : World).heap[gp]? = some (.cells #[.slice Ap q.length cp, .int .i64 a2, .int .i64 c2] 126 (0, 0)) from (by (with_reducible repeat (first | refine blk_drewN ?_ _ | refine blk_drew ?_ | refine blk_alloc ?_ _)); exact BP.out)) (by decide)) hk_.1 (fun _ h_ => h_.2)) (fun _ _ => trivial)); have m5_ := Aside0.mk (show Kd.R k122 122 w22 w.heap.size (fun _ => True) (.slice As st.length cs) (st) from Kd.R_mono (Kd.R_keep (Kd.R_types (by (with_reducible repeat (first | apply Kd.R_alloc | apply Kd.R_drewN | apply Kd.R_drew)); exact VS.out) (show (_ : World).heap[gp]? = some (.cells #[.slice Ap q.length cp, .int .i64 a2, .int .i64 c2] 126 (0, 0)) from (by (with_reducible repeat (first | refine blk_drewN ?_ _ | refine blk_drew ?_ | refine blk_alloc ?_ _)); exact BP.out)) (by decide)) hk_.1 (fun _ h_ => h_.2)) (fun _ _ => trivial)); have m6_ := Aside0.mk (show w22.heap[gp]? = some (.cells #[.slice Ap q.length cp, .int .i64 a3, .int .i64 c3] 126 (0, 0)) from hg_); clear HB; clear BR; clear BS; clear BF; clear HQ; clear VS; clear BP; have HB := m0_; have BR := m1_; have BS := m2_; have BF := m3_; have HQ := m4_; have VS := m5_; have BP := m6_; clear m0_ m1_ m2_ m3_ m4_ m5_ m6_; clear hg_ hk_; have z209 : w22.cell? ⟨gr, 0, none⟩ = some (.int .i64 0) := (blk_cell BR.out 0).trans rfl; have zf210 := blk_frozen BR.out 0; have z211 : w22.cell? ⟨gr, 1, none⟩ = some (.int .i64 0) := (blk_cell BR.out 1).trans rfl; have zf212 := blk_frozen BR.out 1; have z213 : w22.cell? ⟨gr, 2, none⟩ = some (.slice none 0 0) := (blk_cell BR.out 2).trans rfl; have zf214 := blk_frozen BR.out 2; have z215 : w22.cell? ⟨gr, 3, none⟩ = some (.slice none 0 0) := (blk_cell BR.out 3).trans rfl; have zf216 := blk_frozen BR.out 3; have z217 : w22.cell? ⟨gs, 0, none⟩ = some (.slice A0 l0.length c0) := (blk_cell BS.out 0).trans rfl; have zf218 := blk_frozen BS.out 0; have z219 : w22.cell? ⟨gs, 1, none⟩ = some (.int .i64 p3) := (blk_cell BS.out 1).trans rfl; have zf220 := blk_frozen BS.out 1; have z221 : w22.cell? ⟨gs, 2, none⟩ = some (.int .i64 d4) := (blk_cell BS.out 2).trans rfl; have zf222 := blk_frozen BS.out 2; have z223 : w22.cell? ⟨gf, 0, none⟩ = some (.int .i64 v1) := (blk_cell BF.out 0).trans rfl; have zf224 := blk_frozen BF.out 0; have z225 : w22.cell? ⟨gf, 1, none⟩ = some (.int .i64 0) := (blk_cell BF.out 1).trans rfl; have zf226 := blk_frozen BF.out 1; have z227 : w22.cell? ⟨gf, 2, none⟩ = some (.slice none 0 0) := (blk_cell BF.out 2).trans rfl; have zf228 := blk_frozen BF.out 2; have z229 : w22.cell? ⟨gf, 3, none⟩ = some (.slice As st.length cs) := (blk_cell BF.out 3).trans rfl; have zf230 := blk_frozen BF.out 3; have z231 : w22.cell? ⟨gp, 0, none⟩ = some (.slice Ap q.length cp) := (blk_cell BP.out 0).trans rfl; have zf232 := blk_frozen BP.out 0; have z233 : w22.cell? ⟨gp, 1, none⟩ = some (.int .i64 a3) := (blk_cell BP.out 1).trans rfl; have zf234 := blk_frozen BP.out 1; have z235 : w22.cell? ⟨gp, 2, none⟩ = some (.int .i64 c3) := (blk_cell BP.out 2).trans rfl; have zf236 := blk_frozen BP.out 2; have zq_ : (w22.alloc (Obj.cells #[.int .i64 x1, .int .i64 x2] 122)).cell? ⟨gf, 3, none⟩ = some (.slice As st.length cs) := (blk_cell (blk_alloc BF.out _) 3).trans rfl))
                          try dsimp only
                          refine hK.out _ _ trivial (fun _ => ?_)
                          clear hK K
                          try simp only [Act.put, List.setIfInBounds_toArray, List.set_cons_zero, List.set_cons_succ]
                          refine wpAnyH_take (i := 5) (v := ?_) rfl (by kernel_rfl) (by kernel_rfl) (by kernel_rfl) (fun _ _ _ h => h) (Or.inl ⟨by rfl, ?_⟩) trivial ?_
                          rotate_left
                          · intro w_ _
                            try simp only [List.getElem_toArray, List.getElem_cons_zero, List.getElem_cons_succ]
                            go_simp
                            with_reducible rfl
                          rotate_left
                          try simp only [List.getElem_toArray, List.getElem_cons_zero, List.getElem_cons_succ]
                          try simp only [Act.put, List.setIfInBounds_toArray, List.set_cons_zero, List.set_cons_succ]
                          refine wpAnyH_ready (rs := [1, 6]) (by kernel_rfl) (by simp) ?_
                          refine AllReadyH.cons rfl (fun K hK => ?_) ?_
                          · try simp only [List.getElem_toArray, List.getElem_cons_zero, List.getElem_cons_succ]
                            go_simp
                            refine hK.out _ _ trivial (fun _ => ?_)
                            clear hK K
                            try simp only [Act.put, List.setIfInBounds_toArray, List.set_cons_zero, List.set_cons_succ]
                            refine wpAnyH_ready (rs := [6]) (by kernel_rfl) (by simp) ?_
                            refine AllReadyH.cons rfl (fun K hK => ?_) ?_
                            · try simp only [List.getElem_toArray, List.getElem_cons_zero, List.getElem_cons_succ]
                              go_simp
                              refine hK.out _ _ trivial (fun _ => ?_)
                              clear hK K
                              try simp only [Act.put, List.setIfInBounds_toArray, List.set_cons_zero, List.set_cons_succ]
                              refine wpAnyH_ready (rs := [7]) (by kernel_rfl) (by simp) ?_
                              refine AllReadyH.cons rfl (fun K hK => ?_) ?_
                              · (refine Kd.R_append_step k122 (w0 := w) w.heap.size (by rfl) (.tmp 88) (.tmp 93) 23 122 (.agg #[.int .i64 0, .int .i64 0]) 16 rfl Try.underlying23 impl_rh.infoS rfl (by decide) (by omega) (.slice As st.length cs) st (⟨x1, x2⟩ : S122) [.int .i64 x1, .int .i64 x2] (fun _ => True) (fun _ => False) rfl rfl ?aP (fun _ hk => hk.elim) ?aF ?aO ?aB ?aS ?aL ?_; (case aP => exact k122_mkM _ _ _ (⟨x1, x2⟩ : S122)); (case aB => exact (by repeat (first | (with_reducible first | exact HB.out | apply below_alloc | apply pw_below_drewN | apply below_drew1 | refine below_set ?_ GE_BR.out | refine below_set ?_ GE_BS.out | refine below_set ?_ GE_BF.out | refine below_set ?_ GE_BP.out) | exact HB.out))); (case aF => exact (fun _ _ => trivial)); (case aO => exact VS.out); (case aS => exact (below_size (by repeat (first | (with_reducible first | exact HB.out | apply below_alloc | apply pw_below_drewN | apply below_drew1 | refine below_set ?_ GE_BR.out | refine below_set ?_ GE_BS.out | refine below_set ?_ GE_BF.out | refine below_set ?_ GE_BP.out) | exact HB.out)))); (case aL => have := HST.out; omega); intro vS w23 ho hb hg hat; have m0_ := Aside0.mk (show Below w.heap.size w w23 from hb); have m1_ := Aside0.mk (show w23.heap[gr]? = some (.cells #[.int .i64 0, .int .i64 0, .slice none 0 0, .slice none 0 0] 25 (0, 0)) from blk_grown BR.out hg (Kd.R_ne VS.out BR.out (by decide))); have m2_ := Aside0.mk (show w23.heap[gs]? = some (.cells #[.slice A0 l0.length c0, .int .i64 p3, .int .i64 d4] 126 (0, 0)) from blk_grown BS.out hg (Kd.R_ne VS.out BS.out (by decide))); have m3_ := Aside0.mk (show w23.heap[gf]? = some (.cells #[.int .i64 v1, .int .i64 0, .slice none 0 0, .slice As st.length cs] 25 (0, 0)) from blk_grown BF.out hg (Kd.R_ne VS.out BF.out (by decide))); have m4_ := Aside0.mk (show w23.heap[gp]? = some (.cells #[.slice Ap q.length cp, .int .i64 a3, .int .i64 c3] 126 (0, 0)) from blk_grown BP.out hg (Kd.R_ne VS.out BP.out (by decide))); have m5_ := Aside0.mk (show Kd.R (Kd.int .u8) 5 w23 w.heap.size (fun _ => True) (.slice Ap q.length cp) (q) from Kd.R_over' HQ.out (Kd.R_typed VS.out) (by decide) hg); have m6_ := Aside0.mk (show Kd.R k122 122 w23 w.heap.size (fun _ => True) vS (st ++ [⟨x1, x2⟩]) from ho); clear HB; clear BR; clear BS; clear BF; clear BP; clear HQ; clear VS; have HB := m0_; have BR := m1_; have BS := m2_; have BF := m3_; have BP := m4_; have HQ := m5_; have VS := m6_; clear m0_ m1_ m2_ m3_ m4_ m5_ m6_; obtain ⟨As2, cs2, rfl⟩ := Kd.R_slice VS.out; clear ho hb hg hat; have z237 : w23.cell? ⟨gf, 0, none⟩ = some (.int .i64 v1) := (blk_cell BF.out 0).trans rfl; have zf238 := blk_frozen BF.out 0; have z239 : w23.cell? ⟨gf, 1, none⟩ = some (.int .i64 0) := (blk_cell BF.out 1).trans rfl; have zf240 := blk_frozen BF.out 1; have z241 : w23.cell? ⟨gf, 2, none⟩ = some (.slice none 0 0) := (blk_cell BF.out 2).trans rfl; have zf242 := blk_frozen BF.out 2; have z243 : w23.cell? ⟨gf, 3, none⟩ = some (.slice As st.length cs) := (blk_cell BF.out 3).trans rfl; have zf244 := blk_frozen BF.out 3; have z245 : w23.cell? ⟨gp, 0, none⟩ = some (.slice Ap q.length cp) := (blk_cell BP.out 0).trans rfl; have zf246 := blk_frozen BP.out 0; have z247 : w23.cell? ⟨gp, 1, none⟩ = some (.int .i64 a3) := (blk_cell BP.out 1).trans rfl; have zf248 := blk_frozen BP.out 1; have z249 : w23.cell? ⟨gp, 2, none⟩ = some (.int .i64 c3) := (blk_cell BP.out 2).trans rfl; have zf250 := blk_frozen BP.out 2)
                                refine hK.out _ _ trivial (fun _ => ?_)
                                clear hK K
                                try simp only [Act.put, List.setIfInBounds_toArray, List.set_cons_zero, List.set_cons_succ]
                                refine wpAnyH_take (i := 8) (v := ?_) rfl (by kernel_rfl) (by kernel_rfl) (by kernel_rfl) (fun _ _ _ h => h) (Or.inl ⟨by rfl, ?_⟩) trivial ?_
                                rotate_left
                                · intro w_ _
                                  try simp only [List.getElem_toArray, List.getElem_cons_zero, List.getElem_cons_succ]
                                  go_simp
                                  with_reducible rfl
                                rotate_left
                                try simp only [List.getElem_toArray, List.getElem_cons_zero, List.getElem_cons_succ]
                                try simp only [Act.put, List.setIfInBounds_toArray, List.set_cons_zero, List.set_cons_succ]
                                refine wpAnyH_ready (rs := [9]) (by kernel_rfl) (by simp) ?_
                                refine AllReadyH.cons rfl (fun K hK => ?_) ?_
                                · try simp only [List.getElem_toArray, List.getElem_cons_zero, List.getElem_cons_succ]
                                  go_simp
                                  refine hK.out _ _ trivial (fun _ => ?_)
                                  clear hK K
                                  try simp only [Act.put, List.setIfInBounds_toArray, List.set_cons_zero, List.set_cons_succ]
                                  refine wpAnyH_done (by kernel_rfl) ?_ _
                                  go_wp2
                                  go_roundg k1
                                  case measure => have := HK1.out; omega
                                  case rel => exact ⟨a3, c3, st ++ [⟨x1, x2⟩], .slice As2 (st ++ [(⟨x1, x2⟩ : S122)]).length cs2, H6, ⟨by have := HK1.out; omega⟩, ⟨(by repeat (first | (with_reducible first | exact HB.out | apply below_alloc | apply pw_below_drewN | apply below_drew1 | refine below_set ?_ GE_BR.out | refine below_set ?_ GE_BS.out | refine below_set ?_ GE_BF.out | refine below_set ?_ GE_BP.out) | exact HB.out))⟩, ⟨(by (with_reducible repeat (first | refine blk_drewN ?_ _ | refine blk_drew ?_ | refine blk_alloc ?_ _ | refine blk_far ?_ NE_BR_BF.out _)); exact BR.out)⟩, ⟨(by (with_reducible repeat (first | refine blk_drewN ?_ _ | refine blk_drew ?_ | refine blk_alloc ?_ _ | refine blk_far ?_ NE_BS_BF.out _)); exact BS.out)⟩, ⟨(by have e_ : (st ++ [(⟨x1, x2⟩ : S122)]).length = st.length + 1 := (by simp); rw [e_]; exact blk_put (cs := #[.int .i64 v1, .int .i64 0, .slice none 0 0, .slice As st.length cs]) BF.out 3 _ rfl)⟩, ⟨(by (with_reducible repeat (first | refine blk_drewN ?_ _ | refine blk_drew ?_ | refine blk_alloc ?_ _ | refine blk_far ?_ NE_BP_BF.out _)); exact BP.out)⟩, ⟨Kd.R_set HQ.out BF.out (by decide) 3 _⟩, ⟨Kd.R_set VS.out BF.out (by decide) 3 _⟩⟩
                                exact AllReadyH.nil
                              exact AllReadyH.nil
                            exact AllReadyH.nil
                          refine AllReadyH.cons rfl (fun K hK => ?_) ?_
                          · try simp only [List.getElem_toArray, List.getElem_cons_zero, List.getElem_cons_succ]
                            go_simp
                            refine hK.out _ _ trivial (fun _ => ?_)
                            clear hK K
                            try simp only [Act.put, List.setIfInBounds_toArray, List.set_cons_zero, List.set_cons_succ]
                            refine wpAnyH_ready (rs := [1]) (by kernel_rfl) (by simp) ?_
                            refine AllReadyH.cons rfl (fun K hK => ?_) ?_
                            · try simp only [List.getElem_toArray, List.getElem_cons_zero, List.getElem_cons_succ]
                              go_simp
                              refine hK.out _ _ trivial (fun _ => ?_)
                              clear hK K
                              try simp only [Act.put, List.setIfInBounds_toArray, List.set_cons_zero, List.set_cons_succ]
                              refine wpAnyH_ready (rs := [7]) (by kernel_rfl) (by simp) ?_
                              refine AllReadyH.cons rfl (fun K hK => ?_) ?_
                              · (refine Kd.R_append_step k122 (w0 := w) w.heap.size (by rfl) (.tmp 88) (.tmp 93) 23 122 (.agg #[.int .i64 0, .int .i64 0]) 16 rfl Try.underlying23 impl_rh.infoS rfl (by decide) (by omega) (.slice As st.length cs) st (⟨x1, x2⟩ : S122) [.int .i64 x1, .int .i64 x2] (fun _ => True) (fun _ => False) rfl rfl ?aP (fun _ hk => hk.elim) ?aF ?aO ?aB ?aS ?aL ?_; (case aP => exact k122_mkM _ _ _ (⟨x1, x2⟩ : S122)); (case aB => exact (by repeat (first | (with_reducible first | exact HB.out | apply below_alloc | apply pw_below_drewN | apply below_drew1 | refine below_set ?_ GE_BR.out | refine below_set ?_ GE_BS.out | refine below_set ?_ GE_BF.out | refine below_set ?_ GE_BP.out) | exact HB.out))); (case aF => exact (fun _ _ => trivial)); (case aO => exact VS.out); (case aS => exact (below_size (by repeat (first | (with_reducible first | exact HB.out | apply below_alloc | apply pw_below_drewN | apply below_drew1 | refine below_set ?_ GE_BR.out | refine below_set ?_ GE_BS.out | refine below_set ?_ GE_BF.out | refine below_set ?_ GE_BP.out) | exact HB.out)))); (case aL => have := HST.out; omega); intro vS w23 ho hb hg hat; have m0_ := Aside0.mk (show Below w.heap.size w w23 from hb); have m1_ := Aside0.mk (show w23.heap[gr]? = some (.cells #[.int .i64 0, .int .i64 0, .slice none 0 0, .slice none 0 0] 25 (0, 0)) from blk_grown BR.out hg (Kd.R_ne VS.out BR.out (by decide))); have m2_ := Aside0.mk (show w23.heap[gs]? = some (.cells #[.slice A0 l0.length c0, .int .i64 p3, .int .i64 d4] 126 (0, 0)) from blk_grown BS.out hg (Kd.R_ne VS.out BS.out (by decide))); have m3_ := Aside0.mk (show w23.heap[gf]? = some (.cells #[.int .i64 v1, .int .i64 0, .slice none 0 0, .slice As st.length cs] 25 (0, 0)) from blk_grown BF.out hg (Kd.R_ne VS.out BF.out (by decide))); have m4_ := Aside0.mk (show w23.heap[gp]? = some (.cells #[.slice Ap q.length cp, .int .i64 a3, .int .i64 c3] 126 (0, 0)) from blk_grown BP.out hg (Kd.R_ne VS.out BP.out (by decide))); have m5_ := Aside0.mk (show Kd.R (Kd.int .u8) 5 w23 w.heap.size (fun _ => True) (.slice Ap q.length cp) (q) from Kd.R_over' HQ.out (Kd.R_typed VS.out) (by decide) hg); have m6_ := Aside0.mk (show Kd.R k122 122 w23 w.heap.size (fun _ => True) vS (st ++ [⟨x1, x2⟩]) from ho); clear HB; clear BR; clear BS; clear BF; clear BP; clear HQ; clear VS; have HB := m0_; have BR := m1_; have BS := m2_; have BF := m3_; have BP := m4_; have HQ := m5_; have VS := m6_; clear m0_ m1_ m2_ m3_ m4_ m5_ m6_; obtain ⟨As2, cs2, rfl⟩ := Kd.R_slice VS.out; clear ho hb hg hat; have z237 : w23.cell? ⟨gf, 0, none⟩ = some (.int .i64 v1) := (blk_cell BF.out 0).trans rfl; have zf238 := blk_frozen BF.out 0; have z239 : w23.cell? ⟨gf, 1, none⟩ = some (.int .i64 0) := (blk_cell BF.out 1).trans rfl; have zf240 := blk_frozen BF.out 1; have z241 : w23.cell? ⟨gf, 2, none⟩ = some (.slice none 0 0) := (blk_cell BF.out 2).trans rfl; have zf242 := blk_frozen BF.out 2; have z243 : w23.cell? ⟨gf, 3, none⟩ = some (.slice As st.length cs) := (blk_cell BF.out 3).trans rfl; have zf244 := blk_frozen BF.out 3; have z245 : w23.cell? ⟨gp, 0, none⟩ = some (.slice Ap q.length cp) := (blk_cell BP.out 0).trans rfl; have zf246 := blk_frozen BP.out 0; have z247 : w23.cell? ⟨gp, 1, none⟩ = some (.int .i64 a3) := (blk_cell BP.out 1).trans rfl; have zf248 := blk_frozen BP.out 1; have z249 : w23.cell? ⟨gp, 2, none⟩ = some (.int .i64 c3) := (blk_cell BP.out 2).trans rfl; have zf250 := blk_frozen BP.out 2)
                                refine hK.out _ _ trivial (fun _ => ?_)
                                clear hK K
                                try simp only [Act.put, List.setIfInBounds_toArray, List.set_cons_zero, List.set_cons_succ]
                                refine wpAnyH_take (i := 8) (v := ?_) rfl (by kernel_rfl) (by kernel_rfl) (by kernel_rfl) (fun _ _ _ h => h) (Or.inl ⟨by rfl, ?_⟩) trivial ?_
                                rotate_left
                                · intro w_ _
                                  try simp only [List.getElem_toArray, List.getElem_cons_zero, List.getElem_cons_succ]
                                  go_simp
                                  with_reducible rfl
                                rotate_left
                                try simp only [List.getElem_toArray, List.getElem_cons_zero, List.getElem_cons_succ]
                                try simp only [Act.put, List.setIfInBounds_toArray, List.set_cons_zero, List.set_cons_succ]
                                refine wpAnyH_ready (rs := [9]) (by kernel_rfl) (by simp) ?_
                                refine AllReadyH.cons rfl (fun K hK => ?_) ?_
                                · try simp only [List.getElem_toArray, List.getElem_cons_zero, List.getElem_cons_succ]
                                  go_simp
                                  refine hK.out _ _ trivial (fun _ => ?_)
                                  clear hK K
                                  try simp only [Act.put, List.setIfInBounds_toArray, List.set_cons_zero, List.set_cons_succ]
                                  refine wpAnyH_done (by kernel_rfl) ?_ _
                                  go_wp2
                                  go_roundg k1
                                  case measure => have := HK1.out; omega
                                  case rel => exact ⟨a3, c3, st ++ [⟨x1, x2⟩], .slice As2 (st ++ [(⟨x1, x2⟩ : S122)]).length cs2, H6, ⟨by have := HK1.out; omega⟩, ⟨(by repeat (first | (with_reducible first | exact HB.out | apply below_alloc | apply pw_below_drewN | apply below_drew1 | refine below_set ?_ GE_BR.out | refine below_set ?_ GE_BS.out | refine below_set ?_ GE_BF.out | refine below_set ?_ GE_BP.out) | exact HB.out))⟩, ⟨(by (with_reducible repeat (first | refine blk_drewN ?_ _ | refine blk_drew ?_ | refine blk_alloc ?_ _ | refine blk_far ?_ NE_BR_BF.out _)); exact BR.out)⟩, ⟨(by (with_reducible repeat (first | refine blk_drewN ?_ _ | refine blk_drew ?_ | refine blk_alloc ?_ _ | refine blk_far ?_ NE_BS_BF.out _)); exact BS.out)⟩, ⟨(by have e_ : (st ++ [(⟨x1, x2⟩ : S122)]).length = st.length + 1 := (by simp); rw [e_]; exact blk_put (cs := #[.int .i64 v1, .int .i64 0, .slice none 0 0, .slice As st.length cs]) BF.out 3 _ rfl)⟩, ⟨(by (with_reducible repeat (first | refine blk_drewN ?_ _ | refine blk_drew ?_ | refine blk_alloc ?_ _ | refine blk_far ?_ NE_BP_BF.out _)); exact BP.out)⟩, ⟨Kd.R_set HQ.out BF.out (by decide) 3 _⟩, ⟨Kd.R_set VS.out BF.out (by decide) 3 _⟩⟩
                                exact AllReadyH.nil
                              exact AllReadyH.nil
                            exact AllReadyH.nil
                          exact AllReadyH.nil
                        exact AllReadyH.nil
                      · rw [if_neg c7] at h6
                        simp only [Option.some.injEq, Prod.mk.injEq] at h6
                        obtain ⟨rfl, rfl, rfl⟩ := h6
                        by_cases c10 : a_ < (q.length : Int)
                        · have q11 : decide (a_ < (q.length : Int)) = true := decide_eq_true c10
                          by_cases c11 : c_ = 0
                          · have q12 : (c_ == 0) = true := by rw [c11]; rfl
                            have c12 : ¬ st.length ≤ 16 := fun h_ => c7 ⟨c10, c11, h_⟩
                            have q13 : decide ((st.length : Int) ≤ 16) = false := decide_eq_false (by omega)
                            have q14 : decide (st.length ≤ 16) = false := decide_eq_false c12
                            clear c7 c10 c11 c12
                            go_wp2
                            go_quiet (fail)
                            go_wp2
                            go_meet
                            case rel => exact ⟨_, _, rfl, ⟨(by repeat (first | (with_reducible first | exact HB.out | apply below_alloc | apply pw_below_drewN | apply below_drew1 | refine below_set ?_ GE_BR.out | refine below_set ?_ GE_BS.out | refine below_set ?_ GE_BF.out | refine below_set ?_ GE_BP.out) | exact HB.out))⟩, ⟨(by (with_reducible repeat (first | refine blk_drewN ?_ _ | refine blk_drew ?_ | refine blk_alloc ?_ _)); exact BR.out)⟩, ⟨(by (with_reducible repeat (first | refine blk_drewN ?_ _ | refine blk_drew ?_ | refine blk_alloc ?_ _)); exact BS.out)⟩, ⟨(by (with_reducible repeat (first | refine blk_drewN ?_ _ | refine blk_drew ?_ | refine blk_alloc ?_ _)); exact BF.out)⟩, ⟨(by (with_reducible repeat (first | refine blk_drewN ?_ _ | refine blk_drew ?_ | refine blk_alloc ?_ _)); exact BP.out)⟩, ⟨Kd.Q_nil _ _ _ _ _⟩, ⟨(by (with_reducible repeat (first | apply Kd.R_alloc | apply Kd.R_drewN | apply Kd.R_drew)); exact VS.out)⟩⟩
                          · have q12 : (c_ == 0) = false := beq_eq_false_iff_ne.2 c11
                            clear c7 c10 c11
                            go_wp2
                            go_quiet (fail)
                            go_wp2
                            go_meet
                            case rel => exact ⟨_, _, rfl, ⟨(by repeat (first | (with_reducible first | exact HB.out | apply below_alloc | apply pw_below_drewN | apply below_drew1 | refine below_set ?_ GE_BR.out | refine below_set ?_ GE_BS.out | refine below_set ?_ GE_BF.out | refine below_set ?_ GE_BP.out) | exact HB.out))⟩, ⟨(by (with_reducible repeat (first | refine blk_drewN ?_ _ | refine blk_drew ?_ | refine blk_alloc ?_ _)); exact BR.out)⟩, ⟨(by (with_reducible repeat (first | refine blk_drewN ?_ _ | refine blk_drew ?_ | refine blk_alloc ?_ _)); exact BS.out)⟩, ⟨(by (with_reducible repeat (first | refine blk_drewN ?_ _ | refine blk_drew ?_ | refine blk_alloc ?_ _)); exact BF.out)⟩, ⟨(by (with_reducible repeat (first | refine blk_drewN ?_ _ | refine blk_drew ?_ | refine blk_alloc ?_ _)); exact BP.out)⟩, ⟨Kd.Q_nil _ _ _ _ _⟩, ⟨(by (with_reducible repeat (first | apply Kd.R_alloc | apply Kd.R_drewN | apply Kd.R_drew)); exact VS.out)⟩⟩
                        · have q11 : decide (a_ < (q.length : Int)) = false := decide_eq_false c10
                          clear c7 c10
                          go_wp2
                          go_quiet (fail)
                          go_wp2
                          go_meet
                          case rel => exact ⟨_, _, rfl, ⟨(by repeat (first | (with_reducible first | exact HB.out | apply below_alloc | apply pw_below_drewN | apply below_drew1 | refine below_set ?_ GE_BR.out | refine below_set ?_ GE_BS.out | refine below_set ?_ GE_BF.out | refine below_set ?_ GE_BP.out) | exact HB.out))⟩, ⟨(by (with_reducible repeat (first | refine blk_drewN ?_ _ | refine blk_drew ?_ | refine blk_alloc ?_ _)); exact BR.out)⟩, ⟨(by (with_reducible repeat (first | refine blk_drewN ?_ _ | refine blk_drew ?_ | refine blk_alloc ?_ _)); exact BS.out)⟩, ⟨(by (with_reducible repeat (first | refine blk_drewN ?_ _ | refine blk_drew ?_ | refine blk_alloc ?_ _)); exact BF.out)⟩, ⟨(by (with_reducible repeat (first | refine blk_drewN ?_ _ | refine blk_drew ?_ | refine blk_alloc ?_ _)); exact BP.out)⟩, ⟨Kd.Q_nil _ _ _ _ _⟩, ⟨(by (with_reducible repeat (first | apply Kd.R_alloc | apply Kd.R_drewN | apply Kd.R_drew)); exact VS.out)⟩⟩
                    · rw [if_neg c6] at h6; exact absurd h6 (by simp)
              · rw [if_neg k4] at h5
                by_cases k7 : v1 = 7
                · rw [if_pos k7] at h5
                  have qk4 : (v1 == 4) = false := by rw [k7]; rfl
                  have qk7 : (v1 == 7) = true := by rw [k7]; rfl
                  have qk15 : (v1 == 15) = false := by rw [k7]; rfl
                  obtain ⟨⟨ya, yp, yc⟩, hn_, h5⟩ := Option.bind_eq_some_iff.1 h5
                  have HN := Aside0.mk hn_
                  clear hn_
                  have z167 : wc.cell? ⟨gf, 0, none⟩ = some (.int .i64 v1) := (blk_cell BF.out 0).trans rfl
                  have zf168 := blk_frozen BF.out 0
                  have z169 : wc.cell? ⟨gf, 1, none⟩ = some (.int .i64 0) := (blk_cell BF.out 1).trans rfl
                  have zf170 := blk_frozen BF.out 1
                  have z171 : wc.cell? ⟨gf, 2, none⟩ = some (.slice none 0 0) := (blk_cell BF.out 2).trans rfl
                  have zf172 := blk_frozen BF.out 2
                  have z173 : wc.cell? ⟨gf, 3, none⟩ = some (.slice none 0 0) := (blk_cell BF.out 3).trans rfl
                  have zf174 := blk_frozen BF.out 3
                  have z175 : wc.cell? ⟨gp, 0, none⟩ = some (.slice Ap q.length cp) := (blk_cell BP.out 0).trans rfl
                  have zf176 := blk_frozen BP.out 0
                  have z177 : wc.cell? ⟨gp, 1, none⟩ = some (.int .i64 0) := (blk_cell BP.out 1).trans rfl
                  have zf178 := blk_frozen BP.out 1
                  have z179 : wc.cell? ⟨gp, 2, none⟩ = some (.int .i64 0) := (blk_cell BP.out 2).trans rfl
                  have zf180 := blk_frozen BP.out 2
                  simp only [Option.some.injEq, Prod.mk.injEq] at h5
                  obtain ⟨rfl, rfl, rfl, rfl, rfl⟩ := h5
                  go_wp2_with (first | (go_at_call 73; refine (impl_rh.num_calls k gp Ap cp q 0 0 ya yp yc _ (show (_ : World).heap[gp]? = some (.cells #[.slice Ap q.length cp, .int .i64 0, .int .i64 0] 126 (0, 0)) from (by (with_reducible repeat (first | refine blk_drewN ?_ _ | refine blk_drew ?_ | refine blk_alloc ?_ _)); exact BP.out)) (Kd.R_reads' (by (with_reducible repeat (first | apply Kd.R_alloc | apply Kd.R_drewN | apply Kd.R_drew)); exact HQ.out)).2.2 HLP.out HN.out).mono ?_; rintro e w15 ⟨rfl, hg_, hk_⟩; have m0_ := Aside0.mk (show Below w.heap.size w w15 from (show Below w.heap.size w _ from by repeat (first | (with_reducible first | exact HB.out | apply below_alloc | apply pw_below_drewN | apply below_drew1 | refine below_set ?_ GE_BR.out | refine below_set ?_ GE_BS.out | refine below_set ?_ GE_BF.out | refine below_set ?_ GE_BP.out) | exact HB.out)).trans (hk_.below GE_BP.out)); have m1_ := Aside0.mk (show w15.heap[gr]? = some (.cells #[.int .i64 0, .int .i64 0, .slice none 0 0, .slice none 0 0] 25 (0, 0)) from hk_.blk (by (with_reducible repeat (first | refine blk_drewN ?_ _ | refine blk_drew ?_ | refine blk_alloc ?_ _)); exact BR.out) NE_BR_BP.out); have m2_ := Aside0.mk (show w15.heap[gs]? = some (.cells #[.slice A0 l0.length c0, .int .i64 p3, .int .i64 d4] 126 (0, 0)) from hk_.blk (by (with_reducible repeat (first | refine blk_drewN ?_ _ | refine blk_drew ?_ | refine blk_alloc ?_ _)); exact BS.out) NE_BS_BP.out); have m3_ := Aside0.mk (show w15.heap[gf]? = some (.cells #[.int .i64 v1, .int .i64 0, .slice none 0 0, .slice none 0 0] 25 (0, 0)) from hk_.blk (by (with_reducible repeat (first | refine blk_drewN ?_ _ | refine blk_drew ?_ | refine blk_alloc ?_ _)); exact BF.out) NE_BF_BP.out); have m4_ := Aside0.mk (show Kd.R (Kd.int .u8) 5 w15 w.heap.size (fun _ => True) (.slice Ap q.length cp) (q) from Kd.R_mono (Kd.R_keep (Kd.R_types (by (with_reducible repeat (first | apply Kd.R_alloc | apply Kd.R_drewN | apply Kd.R_drew)); exact HQ.out) (show (_ : World).heap[gp]? = some (.cells #[.slice Ap q.length cp, .int .i64 0, .int .i64 0] 126 (0, 0)) from (by (with_reducible repeat (first | refine blk_drewN ?_ _ | refine blk_drew ?_ | refine blk_alloc ?_ _)); exact BP.out)) (by decide)) hk_.1 (fun _ h_ => h_.2)) (fun _ _ => trivial)); have m5_ := Aside0.mk (show w15.heap[gp]? = some (.cells #[.slice Ap q.length cp, .int .i64 yp, .int .i64 yc] 126 (0, 0)) from hg_); clear HB; clear BR; clear BS; clear BF; clear HQ; clear BP; have HB := m0_; have BR := m1_; have BS := m2_; have BF := m3_; have HQ := m4_; have BP := m5_; clear m0_ m1_ m2_ m3_ m4_ m5_; clear hg_ hk_; have z181 : w15.cell? ⟨gr, 0, none⟩ = some (.int .i64 0) := (blk_cell BR.out 0).trans rfl; have zf182 := blk_frozen BR.out 0; have z183 : w15.cell? ⟨gr, 1, none⟩ = some (.int .i64 0) := (blk_cell BR.out 1).trans rfl; have zf184 := blk_frozen BR.out 1; have z185 : w15.cell? ⟨gr, 2, none⟩ = some (.slice none 0 0) := (blk_cell BR.out 2).trans rfl; have zf186 := blk_frozen BR.out 2; have z187 : w15.cell? ⟨gr, 3, none⟩ = some (.slice none 0 0) := (blk_cell BR.out 3).trans rfl; have zf188 := blk_frozen BR.out 3; have z189 : w15.cell? ⟨gs, 0, none⟩ = some (.slice A0 l0.length c0) := (blk_cell BS.out 0).trans rfl; have zf190 := blk_frozen BS.out 0; have z191 : w15.cell? ⟨gs, 1, none⟩ = some (.int .i64 p3) := (blk_cell BS.out 1).trans rfl; have zf192 := blk_frozen BS.out 1; have z193 : w15.cell? ⟨gs, 2, none⟩ = some (.int .i64 d4) := (blk_cell BS.out 2).trans rfl; have zf194 := blk_frozen BS.out 2; have z195 : w15.cell? ⟨gf, 0, none⟩ = some (.int .i64 v1) := (blk_cell BF.out 0).trans rfl; have zf196 := blk_frozen BF.out 0; have z197 : w15.cell? ⟨gf, 1, none⟩ = some (.int .i64 0) := (blk_cell BF.out 1).trans rfl; have zf198 := blk_frozen BF.out 1; have z199 : w15.cell? ⟨gf, 2, none⟩ = some (.slice none 0 0) := (blk_cell BF.out 2).trans rfl; have zf200 := blk_frozen BF.out 2; have z201 : w15.cell? ⟨gf, 3, none⟩ = some (.slice none 0 0) := (blk_cell BF.out 3).trans rfl; have zf202 := blk_frozen BF.out 3; have z203 : w15.cell? ⟨gp, 0, none⟩ = some (.slice Ap q.length cp) := (blk_cell BP.out 0).trans rfl; have zf204 := blk_frozen BP.out 0; have z205 : w15.cell? ⟨gp, 1, none⟩ = some (.int .i64 yp) := (blk_cell BP.out 1).trans rfl; have zf206 := blk_frozen BP.out 1; have z207 : w15.cell? ⟨gp, 2, none⟩ = some (.int .i64 yc) := (blk_cell BP.out 2).trans rfl; have zf208 := blk_frozen BP.out 2))
                  go_meet
                  case rel => exact ⟨_, _, rfl, ⟨(by repeat (first | (with_reducible first | exact HB.out | apply below_alloc | apply pw_below_drewN | apply below_drew1 | refine below_set ?_ GE_BR.out | refine below_set ?_ GE_BS.out | refine below_set ?_ GE_BF.out | refine below_set ?_ GE_BP.out) | exact HB.out))⟩, ⟨(by (with_reducible repeat (first | refine blk_drewN ?_ _ | refine blk_drew ?_ | refine blk_alloc ?_ _ | refine blk_far ?_ NE_BR_BF.out _)); exact BR.out)⟩, ⟨(by (with_reducible repeat (first | refine blk_drewN ?_ _ | refine blk_drew ?_ | refine blk_alloc ?_ _ | refine blk_far ?_ NE_BS_BF.out _)); exact BS.out)⟩, ⟨(by (with_reducible repeat (first | refine blk_drewN ?_ _ | refine blk_drew ?_ | refine blk_alloc ?_ _)); refine blk_put (cs := #[.int .i64 v1, .int .i64 0, .slice none 0 0, .slice none 0 0]) ?_ 1 _ rfl; (with_reducible repeat (first | refine blk_drewN ?_ _ | refine blk_drew ?_ | refine blk_alloc ?_ _)); exact BF.out)⟩, ⟨(by (with_reducible repeat (first | refine blk_drewN ?_ _ | refine blk_drew ?_ | refine blk_alloc ?_ _ | refine blk_far ?_ NE_BP_BF.out _)); exact BP.out)⟩, ⟨Kd.Q_nil _ _ _ _ _⟩, ⟨Kd.R_nil _ _ _ _ _⟩⟩
                · rw [if_neg k7] at h5
                  by_cases k15 : v1 = 15
                  · rw [if_pos k15] at h5
                    have qk4 : (v1 == 4) = false := by rw [k15]; rfl
                    have qk7 : (v1 == 7) = false := by rw [k15]; rfl
                    have qk15 : (v1 == 15) = true := by rw [k15]; rfl
                    obtain ⟨⟨ya, yp, yc⟩, hn_, h5⟩ := Option.bind_eq_some_iff.1 h5
                    have HN := Aside0.mk hn_
                    clear hn_
                    have z167 : wc.cell? ⟨gf, 0, none⟩ = some (.int .i64 v1) := (blk_cell BF.out 0).trans rfl
                    have zf168 := blk_frozen BF.out 0
                    have z169 : wc.cell? ⟨gf, 1, none⟩ = some (.int .i64 0) := (blk_cell BF.out 1).trans rfl
                    have zf170 := blk_frozen BF.out 1
                    have z171 : wc.cell? ⟨gf, 2, none⟩ = some (.slice none 0 0) := (blk_cell BF.out 2).trans rfl
                    have zf172 := blk_frozen BF.out 2
                    have z173 : wc.cell? ⟨gf, 3, none⟩ = some (.slice none 0 0) := (blk_cell BF.out 3).trans rfl
                    have zf174 := blk_frozen BF.out 3
                    have z175 : wc.cell? ⟨gp, 0, none⟩ = some (.slice Ap q.length cp) := (blk_cell BP.out 0).trans rfl
                    have zf176 := blk_frozen BP.out 0
                    have z177 : wc.cell? ⟨gp, 1, none⟩ = some (.int .i64 0) := (blk_cell BP.out 1).trans rfl
                    have zf178 := blk_frozen BP.out 1
                    have z179 : wc.cell? ⟨gp, 2, none⟩ = some (.int .i64 0) := (blk_cell BP.out 2).trans rfl
                    have zf180 := blk_frozen BP.out 2
                    obtain ⟨⟨yd, yq, ye⟩, ht_, h5⟩ := Option.bind_eq_some_iff.1 h5
                    have HT := Aside0.mk ht_
                    clear ht_
                    simp only [Option.some.injEq, Prod.mk.injEq] at h5
                    obtain ⟨rfl, rfl, rfl, rfl, rfl⟩ := h5
                    go_upto_region 24 with (first | (go_at_call 73; refine (impl_rh.num_calls k gp Ap cp q 0 0 ya yp yc _ (show (_ : World).heap[gp]? = some (.cells #[.slice Ap q.length cp, .int .i64 0, .int .i64 0] 126 (0, 0)) from (by (with_reducible repeat (first | refine blk_drewN ?_ _ | refine blk_drew ?_ | refine blk_alloc ?_ _)); exact BP.out)) (Kd.R_reads' (by (with_reducible repeat (first | apply Kd.R_alloc | apply Kd.R_drewN | apply Kd.R_drew)); exact HQ.out)).2.2 HLP.out HN.out).mono ?_; rintro e w15 ⟨rfl, hg_, hk_⟩; have m0_ := Aside0.mk (show Below w.heap.size w w15 from (show Below w.heap.size w _ from by repeat (first | (with_reducible first | exact HB.out | apply below_alloc | apply pw_below_drewN | apply below_drew1 | refine below_set ?_ GE_BR.out | refine below_set ?_ GE_BS.out | refine below_set ?_ GE_BF.out | refine below_set ?_ GE_BP.out) | exact HB.out)).trans (hk_.below GE_BP.out)); have m1_ := Aside0.mk (show w15.heap[gr]? = some (.cells #[.int .i64 0, .int .i64 0, .slice none 0 0, .slice none 0 0] 25 (0, 0)) from hk_.blk (by (with_reducible repeat (first | refine blk_drewN ?_ _ | refine blk_drew ?_ | refine blk_alloc ?_ _)); exact BR.out) NE_BR_BP.out); have m2_ := Aside0.mk (show w15.heap[gs]? = some (.cells #[.slice A0 l0.length c0, .int .i64 p3, .int .i64 d4] 126 (0, 0)) from hk_.blk (by (with_reducible repeat (first | refine blk_drewN ?_ _ | refine blk_drew ?_ | refine blk_alloc ?_ _)); exact BS.out) NE_BS_BP.out); have m3_ := Aside0.mk (show w15.heap[gf]? = some (.cells #[.int .i64 v1, .int .i64 0, .slice none 0 0, .slice none 0 0] 25 (0, 0)) from hk_.blk (by (with_reducible repeat (first | refine blk_drewN ?_ _ | refine blk_drew ?_ | refine blk_alloc ?_ _)); exact BF.out) NE_BF_BP.out); have m4_ := Aside0.mk (show Kd.R (Kd.int .u8) 5 w15 w.heap.size (fun _ => True) (.slice Ap q.length cp) (q) from Kd.R_mono (Kd.R_keep (Kd.R_types (by (with_reducible repeat (first | apply Kd.R_alloc | apply Kd.R_drewN | apply Kd.R_drew)); exact HQ.out) (show (_ : World).heap[gp]? = some (.cells #[.slice Ap q.length cp, .int .i64 0, .int .i64 0] 126 (0, 0)) from (by (with_reducible repeat (first | refine blk_drewN ?_ _ | refine blk_drew ?_ | refine blk_alloc ?_ _)); exact BP.out)) (by decide)) hk_.1 (fun _ h_ => h_.2)) (fun _ _ => trivial)); have m5_ := Aside0.mk (show w15.heap[gp]? = some (.cells #[.slice Ap q.length cp, .int .i64 yp, .int .i64 yc] 126 (0, 0)) from hg_); clear HB; clear BR; clear BS; clear BF; clear HQ; clear BP; have HB := m0_; have BR := m1_; have BS := m2_; have BF := m3_; have HQ := m4_; have BP := m5_; clear m0_ m1_ m2_ m3_ m4_ m5_; clear hg_ hk_; have z181 : w15.cell? ⟨gr, 0, none⟩ = some (.int .i64 0) := (blk_cell BR.out 0).trans rfl; have zf182 := blk_frozen BR.out 0; have z183 : w15.cell? ⟨gr, 1, none⟩ = some (.int .i64 0) := (blk_cell BR.out 1).trans rfl; have zf184 := blk_frozen BR.out 1; have z185 : w15.cell? ⟨gr, 2, none⟩ = some (.slice none 0 0) := (blk_cell BR.out 2).trans rfl; have zf186 := blk_frozen BR.out 2; have z187 : w15.cell? ⟨gr, 3, none⟩ = some (.slice none 0 0) := (blk_cell BR.out 3).trans rfl; have zf188 := blk_frozen BR.out 3; have z189 : w15.cell? ⟨gs, 0, none⟩ = some (.slice A0 l0.length c0) := (blk_cell BS.out 0).trans rfl; have zf190 := blk_frozen BS.out 0; have z191 : w15.cell? ⟨gs, 1, none⟩ = some (.int .i64 p3) := (blk_cell BS.out 1).trans rfl; have zf192 := blk_frozen BS.out 1; have z193 : w15.cell? ⟨gs, 2, none⟩ = some (.int .i64 d4) := (blk_cell BS.out 2).trans rfl; have zf194 := blk_frozen BS.out 2; have z195 : w15.cell? ⟨gf, 0, none⟩ = some (.int .i64 v1) := (blk_cell BF.out 0).trans rfl; have zf196 := blk_frozen BF.out 0; have z197 : w15.cell? ⟨gf, 1, none⟩ = some (.int .i64 0) := (blk_cell BF.out 1).trans rfl; have zf198 := blk_frozen BF.out 1; have z199 : w15.cell? ⟨gf, 2, none⟩ = some (.slice none 0 0) := (blk_cell BF.out 2).trans rfl; have zf200 := blk_frozen BF.out 2; have z201 : w15.cell? ⟨gf, 3, none⟩ = some (.slice none 0 0) := (blk_cell BF.out 3).trans rfl; have zf202 := blk_frozen BF.out 3; have z203 : w15.cell? ⟨gp, 0, none⟩ = some (.slice Ap q.length cp) := (blk_cell BP.out 0).trans rfl; have zf204 := blk_frozen BP.out 0; have z205 : w15.cell? ⟨gp, 1, none⟩ = some (.int .i64 yp) := (blk_cell BP.out 1).trans rfl; have zf206 := blk_frozen BP.out 1; have z207 : w15.cell? ⟨gp, 2, none⟩ = some (.int .i64 yc) := (blk_cell BP.out 2).trans rfl; have zf208 := blk_frozen BP.out 2))
                    refine impl_rh.cwp_seal (fun W_ => Below w.heap.size w W_ ∧ W_.heap[gr]? = some (.cells #[.int .i64 0, .int .i64 0, .slice none 0 0, .slice none 0 0] 25 (0, 0)) ∧ W_.heap[gs]? = some (.cells #[.slice A0 l0.length c0, .int .i64 p3, .int .i64 d4] 126 (0, 0)) ∧ W_.heap[gf]? = some (.cells #[.int .i64 v1, .int .i64 ya, .slice none 0 0, .slice none 0 0] 25 (0, 0)) ∧ W_.heap[gp]? = some (.cells #[.slice Ap q.length cp, .int .i64 yp, .int .i64 yc] 126 (0, 0)) ∧ Kd.R (Kd.int .u8) 5 W_ w.heap.size (fun _ => True) (.slice Ap q.length cp) (q)) ⟨(by repeat (first | (with_reducible first | exact HB.out | apply below_alloc | apply pw_below_drewN | apply below_drew1 | refine below_set ?_ GE_BR.out | refine below_set ?_ GE_BS.out | refine below_set ?_ GE_BF.out | refine below_set ?_ GE_BP.out) | exact HB.out)), by (with_reducible repeat (first | refine blk_drewN ?_ _ | refine blk_drew ?_ | refine blk_alloc ?_ _ | refine blk_far ?_ NE_BR_BF.out _)); exact BR.out, by (with_reducible repeat (first | refine blk_drewN ?_ _ | refine blk_drew ?_ | refine blk_alloc ?_ _ | refine blk_far ?_ NE_BS_BF.out _)); exact BS.out, by (with_reducible repeat (first | refine blk_drewN ?_ _ | refine blk_drew ?_ | refine blk_alloc ?_ _)); refine blk_put (cs := #[.int .i64 v1, .int .i64 0, .slice none 0 0, .slice none 0 0]) ?_ 1 _ rfl; (with_reducible repeat (first | refine blk_drewN ?_ _ | refine blk_drew ?_ | refine blk_alloc ?_ _)); exact BF.out, by (with_reducible repeat (first | refine blk_drewN ?_ _ | refine blk_drew ?_ | refine blk_alloc ?_ _ | refine blk_far ?_ NE_BP_BF.out _)); exact BP.out, by (with_reducible repeat (first | apply Kd.R_alloc | apply Kd.R_drewN | apply Kd.R_drew)); exact Kd.R_set (by (with_reducible repeat (first | apply Kd.R_alloc | apply Kd.R_drewN | apply Kd.R_drew)); exact HQ.out) BF.out (by decide) 1 _⟩ ?_
                    clear HB BR BS BF BP HQ
                    rintro w16 ⟨h0_, h1_, h2_, h3_, h4_, h5_⟩
                    have HB := Aside0.mk h0_
                    have BR := Aside0.mk h1_
                    have BS := Aside0.mk h2_
                    have BF := Aside0.mk h3_
                    have BP := Aside0.mk h4_
                    have HQ := Aside0.mk h5_
                    clear h0_ h1_ h2_ h3_ h4_ h5_
                    have z209 : w16.cell? ⟨gr, 0, none⟩ = some (.int .i64 0) := (blk_cell BR.out 0).trans rfl
                    have zf210 := blk_frozen BR.out 0
                    have z211 : w16.cell? ⟨gr, 1, none⟩ = some (.int .i64 0) := (blk_cell BR.out 1).trans rfl
                    have zf212 := blk_frozen BR.out 1
                    have z213 : w16.cell? ⟨gr, 2, none⟩ = some (.slice none 0 0) := (blk_cell BR.out 2).trans rfl
                    have zf214 := blk_frozen BR.out 2
                    have z215 : w16.cell? ⟨gr, 3, none⟩ = some (.slice none 0 0) := (blk_cell BR.out 3).trans rfl
                    have zf216 := blk_frozen BR.out 3
                    have z217 : w16.cell? ⟨gs, 0, none⟩ = some (.slice A0 l0.length c0) := (blk_cell BS.out 0).trans rfl
                    have zf218 := blk_frozen BS.out 0
                    have z219 : w16.cell? ⟨gs, 1, none⟩ = some (.int .i64 p3) := (blk_cell BS.out 1).trans rfl
                    have zf220 := blk_frozen BS.out 1
                    have z221 : w16.cell? ⟨gs, 2, none⟩ = some (.int .i64 d4) := (blk_cell BS.out 2).trans rfl
                    have zf222 := blk_frozen BS.out 2
                    have z223 : w16.cell? ⟨gf, 0, none⟩ = some (.int .i64 v1) := (blk_cell BF.out 0).trans rfl
                    have zf224 := blk_frozen BF.out 0
                    have z225 : w16.cell? ⟨gf, 1, none⟩ = some (.int .i64 ya) := (blk_cell BF.out 1).trans rfl
                    have zf226 := blk_frozen BF.out 1
                    have z227 : w16.cell? ⟨gf, 2, none⟩ = some (.slice none 0 0) := (blk_cell BF.out 2).trans rfl
                    have zf228 := blk_frozen BF.out 2
                    have z229 : w16.cell? ⟨gf, 3, none⟩ = some (.slice none 0 0) := (blk_cell BF.out 3).trans rfl
                    have zf230 := blk_frozen BF.out 3
                    have z231 : w16.cell? ⟨gp, 0, none⟩ = some (.slice Ap q.length cp) := (blk_cell BP.out 0).trans rfl
                    have zf232 := blk_frozen BP.out 0
                    have z233 : w16.cell? ⟨gp, 1, none⟩ = some (.int .i64 yp) := (blk_cell BP.out 1).trans rfl
                    have zf234 := blk_frozen BP.out 1
                    have z235 : w16.cell? ⟨gp, 2, none⟩ = some (.int .i64 yc) := (blk_cell BP.out 2).trans rfl
                    have zf236 := blk_frozen BP.out 2
                    go_wp2_with (first | (go_at_call 77; refine (impl_rh.rest_calls gp Ap cp q yp yc yq ye yd _ (show (_ : World).heap[gp]? = some (.cells #[.slice Ap q.length cp, .int .i64 yp, .int .i64 yc] 126 (0, 0)) from (by (with_reducible repeat (first | refine blk_drewN ?_ _ | refine blk_drew ?_ | refine blk_alloc ?_ _)); exact BP.out)) (Kd.R_reads' (by (with_reducible repeat (first | apply Kd.R_alloc | apply Kd.R_drewN | apply Kd.R_drew)); exact HQ.out)).2.2 HLP.out HT.out).mono ?_; rintro e w17 ⟨⟨vd_, rfl, hv_⟩, hg_, hk_⟩; have m0_ := Aside0.mk (show Below w.heap.size w w17 from (show Below w.heap.size w _ from by repeat (first | (with_reducible first | exact HB.out | apply below_alloc | apply pw_below_drewN | apply below_drew1 | refine below_set ?_ GE_BR.out | refine below_set ?_ GE_BS.out | refine below_set ?_ GE_BF.out | refine below_set ?_ GE_BP.out) | exact HB.out)).trans (hk_.below GE_BP.out)); have m1_ := Aside0.mk (show w17.heap[gr]? = some (.cells #[.int .i64 0, .int .i64 0, .slice none 0 0, .slice none 0 0] 25 (0, 0)) from hk_.blk (by (with_reducible repeat (first | refine blk_drewN ?_ _ | refine blk_drew ?_ | refine blk_alloc ?_ _)); exact BR.out) NE_BR_BP.out); have m2_ := Aside0.mk (show w17.heap[gs]? = some (.cells #[.slice A0 l0.length c0, .int .i64 p3, .int .i64 d4] 126 (0, 0)) from hk_.blk (by (with_reducible repeat (first | refine blk_drewN ?_ _ | refine blk_drew ?_ | refine blk_alloc ?_ _)); exact BS.out) NE_BS_BP.out); have m3_ := Aside0.mk (show w17.heap[gf]? = some (.cells #[.int .i64 v1, .int .i64 ya, .slice none 0 0, .slice none 0 0] 25 (0, 0)) from hk_.blk (by (with_reducible repeat (first | refine blk_drewN ?_ _ | refine blk_drew ?_ | refine blk_alloc ?_ _)); exact BF.out) NE_BF_BP.out); have m4_ := Aside0.mk (show Kd.R (Kd.int .u8) 5 w17 w.heap.size (fun _ => True) (.slice Ap q.length cp) (q) from Kd.R_mono (Kd.R_keep (Kd.R_types (by (with_reducible repeat (first | apply Kd.R_alloc | apply Kd.R_drewN | apply Kd.R_drew)); exact HQ.out) (show (_ : World).heap[gp]? = some (.cells #[.slice Ap q.length cp, .int .i64 yp, .int .i64 yc] 126 (0, 0)) from (by (with_reducible repeat (first | refine blk_drewN ?_ _ | refine blk_drew ?_ | refine blk_alloc ?_ _)); exact BP.out)) (by decide)) hk_.1 (fun _ h_ => h_.2)) (fun _ _ => trivial)); have m5_ := Aside0.mk (show w17.heap[gp]? = some (.cells #[.slice Ap q.length cp, .int .i64 yq, .int .i64 ye] 126 (0, 0)) from hg_); clear HB; clear BR; clear BS; clear BF; clear HQ; clear BP; have HB := m0_; have BR := m1_; have BS := m2_; have BF := m3_; have HQ := m4_; have BP := m5_; clear m0_ m1_ m2_ m3_ m4_ m5_; have hq_ := hv_.Q HQ.out; obtain ⟨Ad, cd, rfl, _⟩ := Kd.Q_slice hq_; have VD := Aside0.mk hq_; clear hq_ hv_ hg_ hk_; have z237 : w17.cell? ⟨gr, 0, none⟩ = some (.int .i64 0) := (blk_cell BR.out 0).trans rfl; have zf238 := blk_frozen BR.out 0; have z239 : w17.cell? ⟨gr, 1, none⟩ = some (.int .i64 0) := (blk_cell BR.out 1).trans rfl; have zf240 := blk_frozen BR.out 1; have z241 : w17.cell? ⟨gr, 2, none⟩ = some (.slice none 0 0) := (blk_cell BR.out 2).trans rfl; have zf242 := blk_frozen BR.out 2; have z243 : w17.cell? ⟨gr, 3, none⟩ = some (.slice none 0 0) := (blk_cell BR.out 3).trans rfl; have zf244 := blk_frozen BR.out 3; have z245 : w17.cell? ⟨gs, 0, none⟩ = some (.slice A0 l0.length c0) := (blk_cell BS.out 0).trans rfl; have zf246 := blk_frozen BS.out 0; have z247 : w17.cell? ⟨gs, 1, none⟩ = some (.int .i64 p3) := (blk_cell BS.out 1).trans rfl; have zf248 := blk_frozen BS.out 1; have z249 : w17.cell? ⟨gs, 2, none⟩ = some (.int .i64 d4) := (blk_cell BS.out 2).trans rfl; have zf250 := blk_frozen BS.out 2; have z251 : w17.cell? ⟨gf, 0, none⟩ = some (.int .i64 v1) := (blk_cell BF.out 0).trans rfl; have zf252 := blk_frozen BF.out 0; have z253 : w17.cell? ⟨gf, 1, none⟩ = some (.int .i64 ya) := (blk_cell BF.out 1).trans rfl; have zf254 := blk_frozen BF.out 1; have z255 : w17.cell? ⟨gf, 2, none⟩ = some (.slice none 0 0) := (blk_cell BF.out 2).trans rfl; have zf256 := blk_frozen BF.out 2; have z257 : w17.cell? ⟨gf, 3, none⟩ = some (.slice none 0 0) := (blk_cell BF.out 3).trans rfl; have zf258 := blk_frozen BF.out 3; have z259 : w17.cell? ⟨gp, 0, none⟩ = some (.slice Ap q.length cp) := (blk_cell BP.out 0).trans rfl; have zf260 := blk_frozen BP.out 0; have z261 : w17.cell? ⟨gp, 1, none⟩ = some (.int .i64 yq) := (blk_cell BP.out 1).trans rfl; have zf262 := blk_frozen BP.out 1; have z263 : w17.cell? ⟨gp, 2, none⟩ = some (.int .i64 ye) := (blk_cell BP.out 2).trans rfl; have zf264 := blk_frozen BP.out 2))
                    go_meet
                    case rel => exact ⟨_, _, rfl, ⟨(by repeat (first | (with_reducible first | exact HB.out | apply below_alloc | apply pw_below_drewN | apply below_drew1 | refine below_set ?_ GE_BR.out | refine below_set ?_ GE_BS.out | refine below_set ?_ GE_BF.out | refine below_set ?_ GE_BP.out) | exact HB.out))⟩, ⟨(by (with_reducible repeat (first | refine blk_drewN ?_ _ | refine blk_drew ?_ | refine blk_alloc ?_ _ | refine blk_far ?_ NE_BR_BF.out _)); exact BR.out)⟩, ⟨(by (with_reducible repeat (first | refine blk_drewN ?_ _ | refine blk_drew ?_ | refine blk_alloc ?_ _ | refine blk_far ?_ NE_BS_BF.out _)); exact BS.out)⟩, ⟨(by (with_reducible repeat (first | refine blk_drewN ?_ _ | refine blk_drew ?_ | refine blk_alloc ?_ _)); refine blk_put (cs := #[.int .i64 v1, .int .i64 ya, .slice none 0 0, .slice none 0 0]) ?_ 2 _ rfl; (with_reducible repeat (first | refine blk_drewN ?_ _ | refine blk_drew ?_ | refine blk_alloc ?_ _)); exact BF.out)⟩, ⟨(by (with_reducible repeat (first | refine blk_drewN ?_ _ | refine blk_drew ?_ | refine blk_alloc ?_ _ | refine blk_far ?_ NE_BP_BF.out _)); exact BP.out)⟩, ⟨Kd.Q_set VD.out BF.out (by decide) 2 _⟩, ⟨Kd.R_nil _ _ _ _ _⟩⟩
                  · rw [if_neg k15] at h5
                    have qk4 : (v1 == 4) = false := beq_eq_false_iff_ne.2 k4
                    have qk7 : (v1 == 7) = false := beq_eq_false_iff_ne.2 k7
                    have qk15 : (v1 == 15) = false := beq_eq_false_iff_ne.2 k15
                    obtain ⟨⟨yd, yq, ye⟩, ht_, h5⟩ := Option.bind_eq_some_iff.1 h5
                    have HT := Aside0.mk (show impl_rh.take q 0 0 ((q.length : Int) - 0) = some (yd, yq, ye) from by rw [Int.sub_zero]; exact ht_)
                    clear ht_
                    simp only [Option.some.injEq, Prod.mk.injEq] at h5
                    obtain ⟨rfl, rfl, rfl, rfl, rfl⟩ := h5
                    have z167 : wc.cell? ⟨gf, 0, none⟩ = some (.int .i64 v1) := (blk_cell BF.out 0).trans rfl
                    have zf168 := blk_frozen BF.out 0
                    have z169 : wc.cell? ⟨gf, 1, none⟩ = some (.int .i64 0) := (blk_cell BF.out 1).trans rfl
                    have zf170 := blk_frozen BF.out 1
                    have z171 : wc.cell? ⟨gf, 2, none⟩ = some (.slice none 0 0) := (blk_cell BF.out 2).trans rfl
                    have zf172 := blk_frozen BF.out 2
                    have z173 : wc.cell? ⟨gf, 3, none⟩ = some (.slice none 0 0) := (blk_cell BF.out 3).trans rfl
                    have zf174 := blk_frozen BF.out 3
                    have z175 : wc.cell? ⟨gp, 0, none⟩ = some (.slice Ap q.length cp) := (blk_cell BP.out 0).trans rfl
                    have zf176 := blk_frozen BP.out 0
                    have z177 : wc.cell? ⟨gp, 1, none⟩ = some (.int .i64 0) := (blk_cell BP.out 1).trans rfl
                    have zf178 := blk_frozen BP.out 1
                    have z179 : wc.cell? ⟨gp, 2, none⟩ = some (.int .i64 0) := (blk_cell BP.out 2).trans rfl
                    have zf180 := blk_frozen BP.out 2
                    go_wp2_with (first | (go_at_call 77; refine (impl_rh.rest_calls gp Ap cp q 0 0 yq ye yd _ (show (_ : World).heap[gp]? = some (.cells #[.slice Ap q.length cp, .int .i64 0, .int .i64 0] 126 (0, 0)) from (by (with_reducible repeat (first | refine blk_drewN ?_ _ | refine blk_drew ?_ | refine blk_alloc ?_ _)); exact BP.out)) (Kd.R_reads' (by (with_reducible repeat (first | apply Kd.R_alloc | apply Kd.R_drewN | apply Kd.R_drew)); exact HQ.out)).2.2 HLP.out HT.out).mono ?_; rintro e w15 ⟨⟨vd_, rfl, hv_⟩, hg_, hk_⟩; have m0_ := Aside0.mk (show Below w.heap.size w w15 from (show Below w.heap.size w _ from by repeat (first | (with_reducible first | exact HB.out | apply below_alloc | apply pw_below_drewN | apply below_drew1 | refine below_set ?_ GE_BR.out | refine below_set ?_ GE_BS.out | refine below_set ?_ GE_BF.out | refine below_set ?_ GE_BP.out) | exact HB.out)).trans (hk_.below GE_BP.out)); have m1_ := Aside0.mk (show w15.heap[gr]? = some (.cells #[.int .i64 0, .int .i64 0, .slice none 0 0, .slice none 0 0] 25 (0, 0)) from hk_.blk (by (with_reducible repeat (first | refine blk_drewN ?_ _ | refine blk_drew ?_ | refine blk_alloc ?_ _)); exact BR.out) NE_BR_BP.out); have m2_ := Aside0.mk (show w15.heap[gs]? = some (.cells #[.slice A0 l0.length c0, .int .i64 p3, .int .i64 d4] 126 (0, 0)) from hk_.blk (by (with_reducible repeat (first | refine blk_drewN ?_ _ | refine blk_drew ?_ | refine blk_alloc ?_ _)); exact BS.out) NE_BS_BP.out); have m3_ := Aside0.mk (show w15.heap[gf]? = some (.cells #[.int .i64 v1, .int .i64 0, .slice none 0 0, .slice none 0 0] 25 (0, 0)) from hk_.blk (by (with_reducible repeat (first | refine blk_drewN ?_ _ | refine blk_drew ?_ | refine blk_alloc ?_ _)); exact BF.out) NE_BF_BP.out); have m4_ := Aside0.mk (show Kd.R (Kd.int .u8) 5 w15 w.heap.size (fun _ => True) (.slice Ap q.length cp) (q) from Kd.R_mono (Kd.R_keep (Kd.R_types (by (with_reducible repeat (first | apply Kd.R_alloc | apply Kd.R_drewN | apply Kd.R_drew)); exact HQ.out) (show (_ : World).heap[gp]? = some (.cells #[.slice Ap q.length cp, .int .i64 0, .int .i64 0] 126 (0, 0)) from (by (with_reducible repeat (first | refine blk_drewN ?_ _ | refine blk_drew ?_ | refine blk_alloc ?_ _)); exact BP.out)) (by decide)) hk_.1 (fun _ h_ => h_.2)) (fun _ _ => trivial)); have m5_ := Aside0.mk (show w15.heap[gp]? = some (.cells #[.slice Ap q.length cp, .int .i64 yq, .int .i64 ye] 126 (0, 0)) from hg_); clear HB; clear BR; clear BS; clear BF; clear HQ; clear BP; have HB := m0_; have BR := m1_; have BS := m2_; have BF := m3_; have HQ := m4_; have BP := m5_; clear m0_ m1_ m2_ m3_ m4_ m5_; have hq_ := hv_.Q HQ.out; obtain ⟨Ad, cd, rfl, _⟩ := Kd.Q_slice hq_; have VD := Aside0.mk hq_; clear hq_ hv_ hg_ hk_; have z181 : w15.cell? ⟨gr, 0, none⟩ = some (.int .i64 0) := (blk_cell BR.out 0).trans rfl; have zf182 := blk_frozen BR.out 0; have z183 : w15.cell? ⟨gr, 1, none⟩ = some (.int .i64 0) := (blk_cell BR.out 1).trans rfl; have zf184 := blk_frozen BR.out 1; have z185 : w15.cell? ⟨gr, 2, none⟩ = some (.slice none 0 0) := (blk_cell BR.out 2).trans rfl; have zf186 := blk_frozen BR.out 2; have z187 : w15.cell? ⟨gr, 3, none⟩ = some (.slice none 0 0) := (blk_cell BR.out 3).trans rfl; have zf188 := blk_frozen BR.out 3; have z189 : w15.cell? ⟨gs, 0, none⟩ = some (.slice A0 l0.length c0) := (blk_cell BS.out 0).trans rfl; have zf190 := blk_frozen BS.out 0; have z191 : w15.cell? ⟨gs, 1, none⟩ = some (.int .i64 p3) := (blk_cell BS.out 1).trans rfl; have zf192 := blk_frozen BS.out 1; have z193 : w15.cell? ⟨gs, 2, none⟩ = some (.int .i64 d4) := (blk_cell BS.out 2).trans rfl; have zf194 := blk_frozen BS.out 2; have z195 : w15.cell? ⟨gf, 0, none⟩ = some (.int .i64 v1) := (blk_cell BF.out 0).trans rfl; have zf196 := blk_frozen BF.out 0; have z197 : w15.cell? ⟨gf, 1, none⟩ = some (.int .i64 0) := (blk_cell BF.out 1).trans rfl; have zf198 := blk_frozen BF.out 1; have z199 : w15.cell? ⟨gf, 2, none⟩ = some (.slice none 0 0) := (blk_cell BF.out 2).trans rfl; have zf200 := blk_frozen BF.out 2; have z201 : w15.cell? ⟨gf, 3, none⟩ = some (.slice none 0 0) := (blk_cell BF.out 3).trans rfl; have zf202 := blk_frozen BF.out 3; have z203 : w15.cell? ⟨gp, 0, none⟩ = some (.slice Ap q.length cp) := (blk_cell BP.out 0).trans rfl; have zf204 := blk_frozen BP.out 0; have z205 : w15.cell? ⟨gp, 1, none⟩ = some (.int .i64 yq) := (blk_cell BP.out 1).trans rfl; have zf206 := blk_frozen BP.out 1; have z207 : w15.cell? ⟨gp, 2, none⟩ = some (.int .i64 ye) := (blk_cell BP.out 2).trans rfl; have zf208 := blk_frozen BP.out 2))
                    go_meet
                    case rel => exact ⟨_, _, rfl, ⟨(by repeat (first | (with_reducible first | exact HB.out | apply below_alloc | apply pw_below_drewN | apply below_drew1 | refine below_set ?_ GE_BR.out | refine below_set ?_ GE_BS.out | refine below_set ?_ GE_BF.out | refine below_set ?_ GE_BP.out) | exact HB.out))⟩, ⟨(by (with_reducible repeat (first | refine blk_drewN ?_ _ | refine blk_drew ?_ | refine blk_alloc ?_ _ | refine blk_far ?_ NE_BR_BF.out _)); exact BR.out)⟩, ⟨(by (with_reducible repeat (first | refine blk_drewN ?_ _ | refine blk_drew ?_ | refine blk_alloc ?_ _ | refine blk_far ?_ NE_BS_BF.out _)); exact BS.out)⟩, ⟨(by (with_reducible repeat (first | refine blk_drewN ?_ _ | refine blk_drew ?_ | refine blk_alloc ?_ _)); refine blk_put (cs := #[.int .i64 v1, .int .i64 0, .slice none 0 0, .slice none 0 0]) ?_ 2 _ rfl; (with_reducible repeat (first | refine blk_drewN ?_ _ | refine blk_drew ?_ | refine blk_alloc ?_ _)); exact BF.out)⟩, ⟨(by (with_reducible repeat (first | refine blk_drewN ?_ _ | refine blk_drew ?_ | refine blk_alloc ?_ _ | refine blk_far ?_ NE_BP_BF.out _)); exact BP.out)⟩, ⟨Kd.Q_set VD.out BF.out (by decide) 2 _⟩, ⟨Kd.R_nil _ _ _ _ _⟩⟩
            case rest =>
              clear H5 HB BR BS BF BP HQ
              obtain ⟨vd, vs, rfl, HB, BR, BS, BF, BP, VD, VS⟩ := hcut
              obtain ⟨Ad, cd, rfl, hcd⟩ := Kd.Q_slice VD.out
              obtain ⟨As, cs, rfl⟩ := Kd.R_slice VS.out
              have HCD := Aside0.mk hcd
              have HCS := Aside0.mk (Kd.R_reads' VS.out).2.1
              have h := H.out
              clear H hcd
              unfold impl_rh.fin at h
              dsimp only at h
              have z167 : wc.cell? ⟨gr, 0, none⟩ = some (.int .i64 0) := (blk_cell BR.out 0).trans rfl
              have zf168 := blk_frozen BR.out 0
              have z169 : wc.cell? ⟨gr, 1, none⟩ = some (.int .i64 0) := (blk_cell BR.out 1).trans rfl
              have zf170 := blk_frozen BR.out 1
              have z171 : wc.cell? ⟨gr, 2, none⟩ = some (.slice none 0 0) := (blk_cell BR.out 2).trans rfl
              have zf172 := blk_frozen BR.out 2
              have z173 : wc.cell? ⟨gr, 3, none⟩ = some (.slice none 0 0) := (blk_cell BR.out 3).trans rfl
              have zf174 := blk_frozen BR.out 3
              have z175 : wc.cell? ⟨gs, 0, none⟩ = some (.slice A0 l0.length c0) := (blk_cell BS.out 0).trans rfl
              have zf176 := blk_frozen BS.out 0
              have z177 : wc.cell? ⟨gs, 1, none⟩ = some (.int .i64 p3) := (blk_cell BS.out 1).trans rfl
              have zf178 := blk_frozen BS.out 1
              have z179 : wc.cell? ⟨gs, 2, none⟩ = some (.int .i64 d4) := (blk_cell BS.out 2).trans rfl
              have zf180 := blk_frozen BS.out 2
              have z181 : wc.cell? ⟨gf, 0, none⟩ = some (.int .i64 v1) := (blk_cell BF.out 0).trans rfl
              have zf182 := blk_frozen BF.out 0
              have z183 : wc.cell? ⟨gf, 1, none⟩ = some (.int .i64 xa) := (blk_cell BF.out 1).trans rfl
              have zf184 := blk_frozen BF.out 1
              have z185 : wc.cell? ⟨gf, 2, none⟩ = some (.slice Ad xd.length cd) := (blk_cell BF.out 2).trans rfl
              have zf186 := blk_frozen BF.out 2
              have z187 : wc.cell? ⟨gf, 3, none⟩ = some (.slice As xs.length cs) := (blk_cell BF.out 3).trans rfl
              have zf188 := blk_frozen BF.out 3
              have z189 : wc.cell? ⟨gp, 0, none⟩ = some (.slice Ap q.length cp) := (blk_cell BP.out 0).trans rfl
              have zf190 := blk_frozen BP.out 0
              have z191 : wc.cell? ⟨gp, 1, none⟩ = some (.int .i64 pa) := (blk_cell BP.out 1).trans rfl
              have zf192 := blk_frozen BP.out 1
              have z193 : wc.cell? ⟨gp, 2, none⟩ = some (.int .i64 pd) := (blk_cell BP.out 2).trans rfl
              have zf194 := blk_frozen BP.out 2
              by_cases c8 : pd = 0 ∧ ¬ pa < (q.length : Int)
              · rw [if_pos c8] at h
                obtain ⟨c8a, c8b⟩ := c8
                have q8 : (pd != 0) = false := by rw [c8a]; rfl
                have q9 : decide (pa < (q.length : Int)) = false := decide_eq_false c8b
                clear c8a c8b
                obtain ⟨ok, ho_, h⟩ := Option.bind_eq_some_iff.1 h
                have HO := Aside0.mk ho_
                clear ho_
                cases ok with
                | true =>
                  rw [if_pos rfl] at h
                  simp only [Option.some.injEq, Prod.mk.injEq] at h
                  obtain ⟨rfl, rfl, rfl, rfl, rfl, rfl⟩ := h
                  go_upto_region 25 with (fail)
                  go_region_held3 (fun w' => w'.cell? ⟨gp, 0, none⟩ = some (.slice Ap q.length cp) ∧ w'.cell? ⟨gp, 1, none⟩ = some (.int .i64 pa) ∧ w'.cell? ⟨gp, 2, none⟩ = some (.int .i64 pd) ∧ w'.cell? ⟨gf, 0, none⟩ = some (.int .i64 v1) ∧ w'.cell? ⟨gf, 1, none⟩ = some (.int .i64 xa) ∧ w'.cell? ⟨gf, 2, none⟩ = some (.slice Ad xd.length cd) ∧ w'.cell? ⟨gf, 3, none⟩ = some (.slice As xs.length cs)) (go_keep) (first | (go_at_call 24; refine (impl_HyperOK.calls k v1 xa Ad cd xd As cs xs true _ (Kd.Q_reads' (by (with_reducible repeat (first | apply Kd.Q_alloc | apply Kd.Q_drewN | apply Kd.Q_drew)); exact VD.out)).2.2 HCD.out (Kd.R_reads' (by (with_reducible repeat (first | apply Kd.R_alloc | apply Kd.R_drewN | apply Kd.R_drew)); exact VS.out)).2.2 HCS.out HO.out).mono ?_; rintro e w20 ⟨rfl, hb_⟩; have m0_ := Aside0.mk (show Below w.heap.size w w20 from below_step (by repeat (first | (with_reducible first | exact HB.out | apply below_alloc | apply pw_below_drewN | apply below_drew1 | refine below_set ?_ GE_BR.out | refine below_set ?_ GE_BS.out | refine below_set ?_ GE_BF.out | refine below_set ?_ GE_BP.out) | exact HB.out)) hb_); have m1_ := Aside0.mk (show w20.heap[gr]? = some (.cells #[.int .i64 0, .int .i64 0, .slice none 0 0, .slice none 0 0] 25 (0, 0)) from blk_below (g := gr) (o := .cells #[.int .i64 0, .int .i64 0, .slice none 0 0, .slice none 0 0] 25 (0, 0)) (by (with_reducible repeat (first | refine blk_drewN ?_ _ | refine blk_drew ?_ | refine blk_alloc ?_ _)); exact BR.out) hb_); have m2_ := Aside0.mk (show w20.heap[gs]? = some (.cells #[.slice A0 l0.length c0, .int .i64 p3, .int .i64 d4] 126 (0, 0)) from blk_below (g := gs) (o := .cells #[.slice A0 l0.length c0, .int .i64 p3, .int .i64 d4] 126 (0, 0)) (by (with_reducible repeat (first | refine blk_drewN ?_ _ | refine blk_drew ?_ | refine blk_alloc ?_ _)); exact BS.out) hb_); have m3_ := Aside0.mk (show w20.heap[gf]? = some (.cells #[.int .i64 v1, .int .i64 xa, .slice Ad xd.length cd, .slice As xs.length cs] 25 (0, 0)) from blk_below (g := gf) (o := .cells #[.int .i64 v1, .int .i64 xa, .slice Ad xd.length cd, .slice As xs.length cs] 25 (0, 0)) (by (with_reducible repeat (first | refine blk_drewN ?_ _ | refine blk_drew ?_ | refine blk_alloc ?_ _)); exact BF.out) hb_); have m4_ := Aside0.mk (show w20.heap[gp]? = some (.cells #[.slice Ap q.length cp, .int .i64 pa, .int .i64 pd] 126 (0, 0)) from blk_below (g := gp) (o := .cells #[.slice Ap q.length cp, .int .i64 pa, .int .i64 pd] 126 (0, 0)) (by (with_reducible repeat (first | refine blk_drewN ?_ _ | refine blk_drew ?_ | refine blk_alloc ?_ _)); exact BP.out) hb_); have m5_ := Aside0.mk (show Kd.Q (Kd.int .u8) 5 w20 w.heap.size (fun _ => True) (.slice Ad xd.length cd) (xd) from Kd.Q_below (by (with_reducible repeat (first | apply Kd.Q_alloc | apply Kd.Q_drewN | apply Kd.Q_drew)); exact VD.out) hb_); have m6_ := Aside0.mk (show Kd.R k122 122 w20 w.heap.size (fun _ => True) (.slice As xs.length cs) (xs) from Kd.R_below (by (with_reducible repeat (first | apply Kd.R_alloc | apply Kd.R_drewN | apply Kd.R_drew)); exact VS.out) hb_); clear HB; clear BR; clear BS; clear BF; clear BP; clear VD; clear VS; have HB := m0_; have BR := m1_; have BS := m2_; have BF := m3_; have BP := m4_; have VD := m5_; have VS := m6_; clear m0_ m1_ m2_ m3_ m4_ m5_ m6_; clear hb_; have z195 : w20.cell? ⟨gr, 0, none⟩ = some (.int .i64 0) := (blk_cell BR.out 0).trans rfl; have zf196 := blk_frozen BR.out 0; have z197 : w20.cell? ⟨gr, 1, none⟩ = some (.int .i64 0) := (blk_cell BR.out 1).trans rfl; have zf198 := blk_frozen BR.out 1; have z199 : w20.cell? ⟨gr, 2, none⟩ = some (.slice none 0 0) := (blk_cell BR.out 2).trans rfl; have zf200 := blk_frozen BR.out 2; have z201 : w20.cell? ⟨gr, 3, none⟩ = some (.slice none 0 0) := (blk_cell BR.out 3).trans rfl; have zf202 := blk_frozen BR.out 3; have z203 : w20.cell? ⟨gs, 0, none⟩ = some (.slice A0 l0.length c0) := (blk_cell BS.out 0).trans rfl; have zf204 := blk_frozen BS.out 0; have z205 : w20.cell? ⟨gs, 1, none⟩ = some (.int .i64 p3) := (blk_cell BS.out 1).trans rfl; have zf206 := blk_frozen BS.out 1; have z207 : w20.cell? ⟨gs, 2, none⟩ = some (.int .i64 d4) := (blk_cell BS.out 2).trans rfl; have zf208 := blk_frozen BS.out 2; have z209 : w20.cell? ⟨gf, 0, none⟩ = some (.int .i64 v1) := (blk_cell BF.out 0).trans rfl; have zf210 := blk_frozen BF.out 0; have z211 : w20.cell? ⟨gf, 1, none⟩ = some (.int .i64 xa) := (blk_cell BF.out 1).trans rfl; have zf212 := blk_frozen BF.out 1; have z213 : w20.cell? ⟨gf, 2, none⟩ = some (.slice Ad xd.length cd) := (blk_cell BF.out 2).trans rfl; have zf214 := blk_frozen BF.out 2; have z215 : w20.cell? ⟨gf, 3, none⟩ = some (.slice As xs.length cs) := (blk_cell BF.out 3).trans rfl; have zf216 := blk_frozen BF.out 3; have z217 : w20.cell? ⟨gp, 0, none⟩ = some (.slice Ap q.length cp) := (blk_cell BP.out 0).trans rfl; have zf218 := blk_frozen BP.out 0; have z219 : w20.cell? ⟨gp, 1, none⟩ = some (.int .i64 pa) := (blk_cell BP.out 1).trans rfl; have zf220 := blk_frozen BP.out 1; have z221 : w20.cell? ⟨gp, 2, none⟩ = some (.int .i64 pd) := (blk_cell BP.out 2).trans rfl; have zf222 := blk_frozen BP.out 2))
                  all_goals go_wp2
                  have ne0 : gs ≠ gr := NE_BS_BR.out
                  have ne1 : gr ≠ gs := NE_BR_BS.out
                  have ne2 : gf ≠ gr := NE_BF_BR.out
                  have ne3 : gr ≠ gf := NE_BR_BF.out
                  have ne4 : gp ≠ gr := NE_BP_BR.out
                  have ne5 : gr ≠ gp := NE_BR_BP.out
                  go_region
                  all_goals go_wp2
                  all_goals have VD2 := Aside0.mk (Kd.Q_types VD.out BR.out (by decide))
                  all_goals have VS2 := Aside0.mk (Kd.R_types VS.out BR.out (by decide))
                  all_goals refine bodyPost_ret (results_ctt rfl _ _ gr 25 #[.int .i64 v1, .int .i64 xa, .slice Ad xd.length cd, .slice As xs.length cs] (0, 0) _ rfl (by (with_reducible repeat (first | refine blk_drewN ?_ _ | refine blk_drew ?_ | refine blk_alloc ?_ _)); refine blk_put (cs := #[.int .i64 v1, .int .i64 xa, .slice Ad xd.length cd, .slice none 0 0]) ?_ 3 _ rfl; refine blk_put (cs := #[.int .i64 v1, .int .i64 xa, .slice none 0 0, .slice none 0 0]) ?_ 2 _ rfl; refine blk_put (cs := #[.int .i64 v1, .int .i64 0, .slice none 0 0, .slice none 0 0]) ?_ 1 _ rfl; refine blk_put (cs := #[.int .i64 0, .int .i64 0, .slice none 0 0, .slice none 0 0]) ?_ 0 _ rfl; (with_reducible repeat (first | refine blk_drewN ?_ _ | refine blk_drew ?_ | refine blk_alloc ?_ _)); exact BR.out) Try.underlying25 rfl (by kernel_rfl)) rfl ?_
                  all_goals exact ⟨_, _, rfl, Kd.Q_mono (ok := fun k_ => (fun _ => True) k_ ∧ k_ ≠ gr) (by (with_reducible repeat (first | apply Kd.Q_alloc | apply Kd.Q_drewN | apply Kd.Q_drew | refine Kd.Q_far ?_ (fun _ h_ => h_.2) _)); exact VD2.out) (fun _ _ => trivial), Kd.R_mono (ok := fun k_ => (fun _ => True) k_ ∧ k_ ≠ gr) (by (with_reducible repeat (first | apply Kd.R_alloc | apply Kd.R_drewN | apply Kd.R_drew | refine Kd.R_far ?_ (fun _ h_ => h_.2) _)); exact VS2.out) (fun _ _ => trivial), (by repeat (first | (with_reducible first | exact HB.out | apply below_alloc | apply pw_below_drewN | apply below_drew1 | refine below_set ?_ GE_BR.out | refine below_set ?_ GE_BS.out | refine below_set ?_ GE_BF.out | refine below_set ?_ GE_BP.out) | exact HB.out))⟩
                | false =>
                  rw [if_neg (by simp)] at h
                  simp only [impl_rh.no, Option.some.injEq, Prod.mk.injEq] at h
                  obtain ⟨rfl, rfl, rfl, rfl, rfl, rfl⟩ := h
                  go_upto_region 25 with (fail)
                  go_region_held3 (fun w' => w'.cell? ⟨gp, 0, none⟩ = some (.slice Ap q.length cp) ∧ w'.cell? ⟨gp, 1, none⟩ = some (.int .i64 pa) ∧ w'.cell? ⟨gp, 2, none⟩ = some (.int .i64 pd) ∧ w'.cell? ⟨gf, 0, none⟩ = some (.int .i64 v1) ∧ w'.cell? ⟨gf, 1, none⟩ = some (.int .i64 xa) ∧ w'.cell? ⟨gf, 2, none⟩ = some (.slice Ad xd.length cd) ∧ w'.cell? ⟨gf, 3, none⟩ = some (.slice As xs.length cs)) (go_keep) (first | (go_at_call 24; refine (impl_HyperOK.calls k v1 xa Ad cd xd As cs xs false _ (Kd.Q_reads' (by (with_reducible repeat (first | apply Kd.Q_alloc | apply Kd.Q_drewN | apply Kd.Q_drew)); exact VD.out)).2.2 HCD.out (Kd.R_reads' (by (with_reducible repeat (first | apply Kd.R_alloc | apply Kd.R_drewN | apply Kd.R_drew)); exact VS.out)).2.2 HCS.out HO.out).mono ?_; rintro e w20 ⟨rfl, hb_⟩; have m0_ := Aside0.mk (show Below w.heap.size w w20 from below_step (by repeat (first | (with_reducible first | exact HB.out | apply below_alloc | apply pw_below_drewN | apply below_drew1 | refine below_set ?_ GE_BR.out | refine below_set ?_ GE_BS.out | refine below_set ?_ GE_BF.out | refine below_set ?_ GE_BP.out) | exact HB.out)) hb_); have m1_ := Aside0.mk (show w20.heap[gr]? = some (.cells #[.int .i64 0, .int .i64 0, .slice none 0 0, .slice none 0 0] 25 (0, 0)) from blk_below (g := gr) (o := .cells #[.int .i64 0, .int .i64 0, .slice none 0 0, .slice none 0 0] 25 (0, 0)) (by (with_reducible repeat (first | refine blk_drewN ?_ _ | refine blk_drew ?_ | refine blk_alloc ?_ _)); exact BR.out) hb_); have m2_ := Aside0.mk (show w20.heap[gs]? = some (.cells #[.slice A0 l0.length c0, .int .i64 p3, .int .i64 d4] 126 (0, 0)) from blk_below (g := gs) (o := .cells #[.slice A0 l0.length c0, .int .i64 p3, .int .i64 d4] 126 (0, 0)) (by (with_reducible repeat (first | refine blk_drewN ?_ _ | refine blk_drew ?_ | refine blk_alloc ?_ _)); exact BS.out) hb_); have m3_ := Aside0.mk (show w20.heap[gf]? = some (.cells #[.int .i64 v1, .int .i64 xa, .slice Ad xd.length cd, .slice As xs.length cs] 25 (0, 0)) from blk_below (g := gf) (o := .cells #[.int .i64 v1, .int .i64 xa, .slice Ad xd.length cd, .slice As xs.length cs] 25 (0, 0)) (by (with_reducible repeat (first | refine blk_drewN ?_ _ | refine blk_drew ?_ | refine blk_alloc ?_ _)); exact BF.out) hb_); have m4_ := Aside0.mk (show w20.heap[gp]? = some (.cells #[.slice Ap q.length cp, .int .i64 pa, .int .i64 pd] 126 (0, 0)) from blk_below (g := gp) (o := .cells #[.slice Ap q.length cp, .int .i64 pa, .int .i64 pd] 126 (0, 0)) (by (with_reducible repeat (first | refine blk_drewN ?_ _ | refine blk_drew ?_ | refine blk_alloc ?_ _)); exact BP.out) hb_); have m5_ := Aside0.mk (show Kd.Q (Kd.int .u8) 5 w20 w.heap.size (fun _ => True) (.slice Ad xd.length cd) (xd) from Kd.Q_below (by (with_reducible repeat (first | apply Kd.Q_alloc | apply Kd.Q_drewN | apply Kd.Q_drew)); exact VD.out) hb_); have m6_ := Aside0.mk (show Kd.R k122 122 w20 w.heap.size (fun _ => True) (.slice As xs.length cs) (xs) from Kd.R_below (by (with_reducible repeat (first | apply Kd.R_alloc | apply Kd.R_drewN | apply Kd.R_drew)); exact VS.out) hb_); clear HB; clear BR; clear BS; clear BF; clear BP; clear VD; clear VS; have HB := m0_; have BR := m1_; have BS := m2_; have BF := m3_; have BP := m4_; have VD := m5_; have VS := m6_; clear m0_ m1_ m2_ m3_ m4_ m5_ m6_; clear hb_; have z195 : w20.cell? ⟨gr, 0, none⟩ = some (.int .i64 0) := (blk_cell BR.out 0).trans rfl; have zf196 := blk_frozen BR.out 0; have z197 : w20.cell? ⟨gr, 1, none⟩ = some (.int .i64 0) := (blk_cell BR.out 1).trans rfl; have zf198 := blk_frozen BR.out 1; have z199 : w20.cell? ⟨gr, 2, none⟩ = some (.slice none 0 0) := (blk_cell BR.out 2).trans rfl; have zf200 := blk_frozen BR.out 2; have z201 : w20.cell? ⟨gr, 3, none⟩ = some (.slice none 0 0) := (blk_cell BR.out 3).trans rfl; have zf202 := blk_frozen BR.out 3; have z203 : w20.cell? ⟨gs, 0, none⟩ = some (.slice A0 l0.length c0) := (blk_cell BS.out 0).trans rfl; have zf204 := blk_frozen BS.out 0; have z205 : w20.cell? ⟨gs, 1, none⟩ = some (.int .i64 p3) := (blk_cell BS.out 1).trans rfl; have zf206 := blk_frozen BS.out 1; have z207 : w20.cell? ⟨gs, 2, none⟩ = some (.int .i64 d4) := (blk_cell BS.out 2).trans rfl; have zf208 := blk_frozen BS.out 2; have z209 : w20.cell? ⟨gf, 0, none⟩ = some (.int .i64 v1) := (blk_cell BF.out 0).trans rfl; have zf210 := blk_frozen BF.out 0; have z211 : w20.cell? ⟨gf, 1, none⟩ = some (.int .i64 xa) := (blk_cell BF.out 1).trans rfl; have zf212 := blk_frozen BF.out 1; have z213 : w20.cell? ⟨gf, 2, none⟩ = some (.slice Ad xd.length cd) := (blk_cell BF.out 2).trans rfl; have zf214 := blk_frozen BF.out 2; have z215 : w20.cell? ⟨gf, 3, none⟩ = some (.slice As xs.length cs) := (blk_cell BF.out 3).trans rfl; have zf216 := blk_frozen BF.out 3; have z217 : w20.cell? ⟨gp, 0, none⟩ = some (.slice Ap q.length cp) := (blk_cell BP.out 0).trans rfl; have zf218 := blk_frozen BP.out 0; have z219 : w20.cell? ⟨gp, 1, none⟩ = some (.int .i64 pa) := (blk_cell BP.out 1).trans rfl; have zf220 := blk_frozen BP.out 1; have z221 : w20.cell? ⟨gp, 2, none⟩ = some (.int .i64 pd) := (blk_cell BP.out 2).trans rfl; have zf222 := blk_frozen BP.out 2))
                  all_goals go_wp2
                  all_goals (refine bodyPost_ret (results_ctt rfl _ _ gr 25 #[.int .i64 0, .int .i64 0, .slice none 0 0, .slice none 0 0] (0, 0) _ rfl (by (with_reducible repeat (first | refine blk_drewN ?_ _ | refine blk_drew ?_ | refine blk_alloc ?_ _)); refine blk_put (cs := #[.int .i64 0, .int .i64 0, .slice none 0 0, .slice none 0 0]) ?_ 3 _ rfl; refine blk_put (cs := #[.int .i64 0, .int .i64 0, .slice none 0 0, .slice none 0 0]) ?_ 2 _ rfl; refine blk_put (cs := #[.int .i64 0, .int .i64 0, .slice none 0 0, .slice none 0 0]) ?_ 1 _ rfl; refine blk_put (cs := #[.int .i64 0, .int .i64 0, .slice none 0 0, .slice none 0 0]) ?_ 0 _ rfl; (with_reducible repeat (first | refine blk_drewN ?_ _ | refine blk_drew ?_ | refine blk_alloc ?_ _)); exact BR.out) Try.underlying25 rfl (by kernel_rfl)) rfl ?_)
                  all_goals (exact ⟨_, _, rfl, Kd.Q_nil _ _ _ _ _, Kd.R_nil _ _ _ _ _, (by repeat (first | (with_reducible first | exact HB.out | apply below_alloc | apply pw_below_drewN | apply below_drew1 | refine below_set ?_ GE_BR.out | refine below_set ?_ GE_BS.out | refine below_set ?_ GE_BF.out | refine below_set ?_ GE_BP.out) | exact HB.out))⟩)
              · rw [if_neg c8] at h
                simp only [impl_rh.no, Option.some.injEq, Prod.mk.injEq] at h
                obtain ⟨rfl, rfl, rfl, rfl, rfl, rfl⟩ := h
                by_cases c9 : pd = 0
                · have q8 : (pd != 0) = false := by rw [c9]; rfl
                  have q9 : decide (pa < (q.length : Int)) = true := decide_eq_true (by by_cases c10 : pa < (q.length : Int); exact c10; exact absurd ⟨c9, c10⟩ c8)
                  clear c8 c9
                  go_wp2
                  go_region
                  all_goals go_wp2
                  all_goals (refine bodyPost_ret (results_ctt rfl _ _ gr 25 #[.int .i64 0, .int .i64 0, .slice none 0 0, .slice none 0 0] (0, 0) _ rfl (by (with_reducible repeat (first | refine blk_drewN ?_ _ | refine blk_drew ?_ | refine blk_alloc ?_ _)); refine blk_put (cs := #[.int .i64 0, .int .i64 0, .slice none 0 0, .slice none 0 0]) ?_ 3 _ rfl; refine blk_put (cs := #[.int .i64 0, .int .i64 0, .slice none 0 0, .slice none 0 0]) ?_ 2 _ rfl; refine blk_put (cs := #[.int .i64 0, .int .i64 0, .slice none 0 0, .slice none 0 0]) ?_ 1 _ rfl; refine blk_put (cs := #[.int .i64 0, .int .i64 0, .slice none 0 0, .slice none 0 0]) ?_ 0 _ rfl; (with_reducible repeat (first | refine blk_drewN ?_ _ | refine blk_drew ?_ | refine blk_alloc ?_ _)); exact BR.out) Try.underlying25 rfl (by kernel_rfl)) rfl ?_)
                  all_goals (exact ⟨_, _, rfl, Kd.Q_nil _ _ _ _ _, Kd.R_nil _ _ _ _ _, (by repeat (first | (with_reducible first | exact HB.out | apply below_alloc | apply pw_below_drewN | apply below_drew1 | refine below_set ?_ GE_BR.out | refine below_set ?_ GE_BS.out | refine below_set ?_ GE_BF.out | refine below_set ?_ GE_BP.out) | exact HB.out))⟩)
                · have q8 : (pd != 0) = true := bne_iff_ne.2 c9
                  clear c8 c9
                  go_wp2
                  go_region
                  all_goals go_wp2
                  all_goals (refine bodyPost_ret (results_ctt rfl _ _ gr 25 #[.int .i64 0, .int .i64 0, .slice none 0 0, .slice none 0 0] (0, 0) _ rfl (by (with_reducible repeat (first | refine blk_drewN ?_ _ | refine blk_drew ?_ | refine blk_alloc ?_ _)); refine blk_put (cs := #[.int .i64 0, .int .i64 0, .slice none 0 0, .slice none 0 0]) ?_ 3 _ rfl; refine blk_put (cs := #[.int .i64 0, .int .i64 0, .slice none 0 0, .slice none 0 0]) ?_ 2 _ rfl; refine blk_put (cs := #[.int .i64 0, .int .i64 0, .slice none 0 0, .slice none 0 0]) ?_ 1 _ rfl; refine blk_put (cs := #[.int .i64 0, .int .i64 0, .slice none 0 0, .slice none 0 0]) ?_ 0 _ rfl; (with_reducible repeat (first | refine blk_drewN ?_ _ | refine blk_drew ?_ | refine blk_alloc ?_ _)); exact BR.out) Try.underlying25 rfl (by kernel_rfl)) rfl ?_)
                  all_goals (exact ⟨_, _, rfl, Kd.Q_nil _ _ _ _ _, Kd.R_nil _ _ _ _ _, (by repeat (first | (with_reducible first | exact HB.out | apply below_alloc | apply pw_below_drewN | apply below_drew1 | refine below_set ?_ GE_BR.out | refine below_set ?_ GE_BS.out | refine below_set ?_ GE_BF.out | refine below_set ?_ GE_BP.out) | exact HB.out))⟩)
        · have q4 : (d4 != 0) = true := bne_iff_ne.2 c4
          rw [if_neg c4] at h
          clear c4
          simp only [impl_rh.no, Option.some.injEq, Prod.mk.injEq] at h
          obtain ⟨rfl, rfl, rfl, rfl, rfl, rfl⟩ := h
          go_wp2_with (first | (go_at_call 75; refine (impl_rh.take_calls gs A0 c0 l0 p2 d3 v2 p3 d4 q _ (show (_ : World).heap[gs]? = some (.cells #[.slice A0 l0.length c0, .int .i64 p2, .int .i64 d3] 126 (0, 0)) from (by (with_reducible repeat (first | refine blk_drewN ?_ _ | refine blk_drew ?_ | refine blk_alloc ?_ _)); exact BS.out)) (Kd.C_below HR.out (by repeat (first | (with_reducible first | exact HB.out | apply below_alloc | apply pw_below_drewN | apply below_drew1 | refine below_set ?_ GE_BR.out | refine below_set ?_ GE_BS.out | refine below_set ?_ GE_BF.out) | exact HB.out))) HC.out H3.out).mono ?_; rintro e w12 ⟨⟨vq, rfl, hv_⟩, hg_, hk_⟩; have m0_ := Aside0.mk (show Below w.heap.size w w12 from (show Below w.heap.size w _ from by repeat (first | (with_reducible first | exact HB.out | apply below_alloc | apply pw_below_drewN | apply below_drew1 | refine below_set ?_ GE_BR.out | refine below_set ?_ GE_BS.out | refine below_set ?_ GE_BF.out) | exact HB.out)).trans (hk_.below GE_BS.out)); have m1_ := Aside0.mk (show w12.heap[gr]? = some (.cells #[.int .i64 0, .int .i64 0, .slice none 0 0, .slice none 0 0] 25 (0, 0)) from hk_.blk (by (with_reducible repeat (first | refine blk_drewN ?_ _ | refine blk_drew ?_ | refine blk_alloc ?_ _)); exact BR.out) NE_BR_BS.out); have m2_ := Aside0.mk (show w12.heap[gf]? = some (.cells #[.int .i64 v1, .int .i64 0, .slice none 0 0, .slice none 0 0] 25 (0, 0)) from hk_.blk (by (with_reducible repeat (first | refine blk_drewN ?_ _ | refine blk_drew ?_ | refine blk_alloc ?_ _)); exact BF.out) NE_BF_BS.out); have m3_ := Aside0.mk (show w12.heap[gs]? = some (.cells #[.slice A0 l0.length c0, .int .i64 p3, .int .i64 d4] 126 (0, 0)) from hg_); clear HB; clear BR; clear BF; clear BS; have HB := m0_; have BR := m1_; have BF := m2_; have BS := m3_; clear m0_ m1_ m2_ m3_; have HV := Aside0.mk hv_; clear hg_ hk_ hv_; have z117 : w12.cell? ⟨gr, 0, none⟩ = some (.int .i64 0) := (blk_cell BR.out 0).trans rfl; have zf118 := blk_frozen BR.out 0; have z119 : w12.cell? ⟨gr, 1, none⟩ = some (.int .i64 0) := (blk_cell BR.out 1).trans rfl; have zf120 := blk_frozen BR.out 1; have z121 : w12.cell? ⟨gr, 2, none⟩ = some (.slice none 0 0) := (blk_cell BR.out 2).trans rfl; have zf122 := blk_frozen BR.out 2; have z123 : w12.cell? ⟨gr, 3, none⟩ = some (.slice none 0 0) := (blk_cell BR.out 3).trans rfl; have zf124 := blk_frozen BR.out 3; have z125 : w12.cell? ⟨gs, 0, none⟩ = some (.slice A0 l0.length c0) := (blk_cell BS.out 0).trans rfl; have zf126 := blk_frozen BS.out 0; have z127 : w12.cell? ⟨gs, 1, none⟩ = some (.int .i64 p3) := (blk_cell BS.out 1).trans rfl; have zf128 := blk_frozen BS.out 1; have z129 : w12.cell? ⟨gs, 2, none⟩ = some (.int .i64 d4) := (blk_cell BS.out 2).trans rfl; have zf130 := blk_frozen BS.out 2; have z131 : w12.cell? ⟨gf, 0, none⟩ = some (.int .i64 v1) := (blk_cell BF.out 0).trans rfl; have zf132 := blk_frozen BF.out 0; have z133 : w12.cell? ⟨gf, 1, none⟩ = some (.int .i64 0) := (blk_cell BF.out 1).trans rfl; have zf134 := blk_frozen BF.out 1; have z135 : w12.cell? ⟨gf, 2, none⟩ = some (.slice none 0 0) := (blk_cell BF.out 2).trans rfl; have zf136 := blk_frozen BF.out 2; have z137 : w12.cell? ⟨gf, 3, none⟩ = some (.slice none 0 0) := (blk_cell BF.out 3).trans rfl; have zf138 := blk_frozen BF.out 3))
          have ne1 : gs ≠ gr := NE_BS_BR.out
          have ne2 : gr ≠ gs := NE_BR_BS.out
          go_region
          all_goals go_wp2
          all_goals (refine bodyPost_ret (results_ctt rfl _ _ gr 25 #[.int .i64 0, .int .i64 0, .slice none 0 0, .slice none 0 0] (0, 0) _ rfl (by (with_reducible repeat (first | refine blk_drewN ?_ _ | refine blk_drew ?_ | refine blk_alloc ?_ _)); refine blk_put (cs := #[.int .i64 0, .int .i64 0, .slice none 0 0, .slice none 0 0]) ?_ 3 _ rfl; refine blk_put (cs := #[.int .i64 0, .int .i64 0, .slice none 0 0, .slice none 0 0]) ?_ 2 _ rfl; refine blk_put (cs := #[.int .i64 0, .int .i64 0, .slice none 0 0, .slice none 0 0]) ?_ 1 _ rfl; refine blk_put (cs := #[.int .i64 0, .int .i64 0, .slice none 0 0, .slice none 0 0]) ?_ 0 _ rfl; (with_reducible repeat (first | refine blk_drewN ?_ _ | refine blk_drew ?_ | refine blk_alloc ?_ _)); exact BR.out) Try.underlying25 rfl (by kernel_rfl)) rfl ?_)
          all_goals (exact ⟨_, _, rfl, Kd.Q_nil _ _ _ _ _, Kd.R_nil _ _ _ _ _, (by repeat (first | (with_reducible first | exact HB.out | apply below_alloc | apply pw_below_drewN | apply below_drew1 | refine below_set ?_ GE_BR.out | refine below_set ?_ GE_BS.out | refine below_set ?_ GE_BF.out) | exact HB.out))⟩)
    · rw [if_neg c2] at h
      simp only [impl_rh.no, Option.some.injEq, Prod.mk.injEq] at h
      obtain ⟨rfl, rfl, rfl, rfl, rfl, rfl⟩ := h
      by_cases c3 : a1 < 0
      · have q1 : decide (a1 < 0) = true := decide_eq_true c3
        clear c2 c3
        go_enter Try.func15, Try.ntmps15
        go_wp2_with (first | ((with_reducible refine gate_dst (N := 4) rfl ?_); refine box_event ?hg (N := 4) ?hd (cs := #[.int .i64 0, .int .i64 0, .slice none 0 0, .slice none 0 0]) (t := 25) ?hr ?_; (case hd => rfl); (case hg => rfl); (case hr => first | (go_simp; done) | (go_simp; rfl)); intro gr hg w3 hbox hb; have GE_BR := Aside0.mk (show w.heap.size ≤ gr from by rw [hg]; exact below_size (by repeat (first | (with_reducible first | exact HB.out | apply below_alloc | apply pw_below_drewN | apply below_drew1) | exact HB.out))); have m0_ := Aside0.mk (show Below w.heap.size w w3 from below_step (by repeat (first | (with_reducible first | exact HB.out | apply below_alloc | apply pw_below_drewN | apply below_drew1) | exact HB.out)) hb); have m1_ := Aside0.mk (show w3.heap[gr]? = some (.cells #[.int .i64 0, .int .i64 0, .slice none 0 0, .slice none 0 0] 25 (0, 0)) from hbox); clear HB; have HB := m0_; have BR := m1_; clear m0_ m1_; clear hb hbox hg; have z1 : w3.cell? ⟨gr, 0, none⟩ = some (.int .i64 0) := (blk_cell BR.out 0).trans rfl; have zf2 := blk_frozen BR.out 0; have z3 : w3.cell? ⟨gr, 1, none⟩ = some (.int .i64 0) := (blk_cell BR.out 1).trans rfl; have zf4 := blk_frozen BR.out 1; have z5 : w3.cell? ⟨gr, 2, none⟩ = some (.slice none 0 0) := (blk_cell BR.out 2).trans rfl; have zf6 := blk_frozen BR.out 2; have z7 : w3.cell? ⟨gr, 3, none⟩ = some (.slice none 0 0) := (blk_cell BR.out 3).trans rfl; have zf8 := blk_frozen BR.out 3) | (go_at_call 72; refine (impl_tooLong.calls A0 c0 l0 false _ (Kd.C_below HR.out (by repeat (first | (with_reducible first | exact HB.out | apply below_alloc | apply pw_below_drewN | apply below_drew1 | refine below_set ?_ GE_BR.out) | exact HB.out))) HC.out H0.out).mono ?_; rintro e w1 ⟨rfl, hd⟩; obtain ⟨m1, hm1⟩ := hd.out; subst hm1; clear hd))
        refine bodyPost_ret (results_ctt rfl _ _ gr 25 #[.int .i64 0, .int .i64 0, .slice none 0 0, .slice none 0 0] (0, 0) _ rfl (by (with_reducible repeat (first | refine blk_drewN ?_ _ | refine blk_drew ?_ | refine blk_alloc ?_ _)); refine blk_put (cs := #[.int .i64 0, .int .i64 0, .slice none 0 0, .slice none 0 0]) ?_ 3 _ rfl; refine blk_put (cs := #[.int .i64 0, .int .i64 0, .slice none 0 0, .slice none 0 0]) ?_ 2 _ rfl; refine blk_put (cs := #[.int .i64 0, .int .i64 0, .slice none 0 0, .slice none 0 0]) ?_ 1 _ rfl; refine blk_put (cs := #[.int .i64 0, .int .i64 0, .slice none 0 0, .slice none 0 0]) ?_ 0 _ rfl; (with_reducible repeat (first | refine blk_drewN ?_ _ | refine blk_drew ?_ | refine blk_alloc ?_ _)); exact BR.out) Try.underlying25 rfl (by kernel_rfl)) rfl ?_
        exact ⟨_, _, rfl, Kd.Q_nil _ _ _ _ _, Kd.R_nil _ _ _ _ _, (by repeat (first | (with_reducible first | exact HB.out | apply below_alloc | apply pw_below_drewN | apply below_drew1 | refine below_set ?_ GE_BR.out) | exact HB.out))⟩
      · have q1 : decide (a1 < 0) = false := decide_eq_false c3
        have q2 : decide ((l0.length : Int) < a1) = true := decide_eq_true (by omega)
        clear c2 c3
        go_enter Try.func15, Try.ntmps15
        go_wp2_with (first | ((with_reducible refine gate_dst (N := 4) rfl ?_); refine box_event ?hg (N := 4) ?hd (cs := #[.int .i64 0, .int .i64 0, .slice none 0 0, .slice none 0 0]) (t := 25) ?hr ?_; (case hd => rfl); (case hg => rfl); (case hr => first | (go_simp; done) | (go_simp; rfl)); intro gr hg w3 hbox hb; have GE_BR := Aside0.mk (show w.heap.size ≤ gr from by rw [hg]; exact below_size (by repeat (first | (with_reducible first | exact HB.out | apply below_alloc | apply pw_below_drewN | apply below_drew1) | exact HB.out))); have m0_ := Aside0.mk (show Below w.heap.size w w3 from below_step (by repeat (first | (with_reducible first | exact HB.out | apply below_alloc | apply pw_below_drewN | apply below_drew1) | exact HB.out)) hb); have m1_ := Aside0.mk (show w3.heap[gr]? = some (.cells #[.int .i64 0, .int .i64 0, .slice none 0 0, .slice none 0 0] 25 (0, 0)) from hbox); clear HB; have HB := m0_; have BR := m1_; clear m0_ m1_; clear hb hbox hg; have z1 : w3.cell? ⟨gr, 0, none⟩ = some (.int .i64 0) := (blk_cell BR.out 0).trans rfl; have zf2 := blk_frozen BR.out 0; have z3 : w3.cell? ⟨gr, 1, none⟩ = some (.int .i64 0) := (blk_cell BR.out 1).trans rfl; have zf4 := blk_frozen BR.out 1; have z5 : w3.cell? ⟨gr, 2, none⟩ = some (.slice none 0 0) := (blk_cell BR.out 2).trans rfl; have zf6 := blk_frozen BR.out 2; have z7 : w3.cell? ⟨gr, 3, none⟩ = some (.slice none 0 0) := (blk_cell BR.out 3).trans rfl; have zf8 := blk_frozen BR.out 3) | (go_at_call 72; refine (impl_tooLong.calls A0 c0 l0 false _ (Kd.C_below HR.out (by repeat (first | (with_reducible first | exact HB.out | apply below_alloc | apply pw_below_drewN | apply below_drew1 | refine below_set ?_ GE_BR.out) | exact HB.out))) HC.out H0.out).mono ?_; rintro e w1 ⟨rfl, hd⟩; obtain ⟨m1, hm1⟩ := hd.out; subst hm1; clear hd))
        refine bodyPost_ret (results_ctt rfl _ _ gr 25 #[.int .i64 0, .int .i64 0, .slice none 0 0, .slice none 0 0] (0, 0) _ rfl (by (with_reducible repeat (first | refine blk_drewN ?_ _ | refine blk_drew ?_ | refine blk_alloc ?_ _)); refine blk_put (cs := #[.int .i64 0, .int .i64 0, .slice none 0 0, .slice none 0 0]) ?_ 3 _ rfl; refine blk_put (cs := #[.int .i64 0, .int .i64 0, .slice none 0 0, .slice none 0 0]) ?_ 2 _ rfl; refine blk_put (cs := #[.int .i64 0, .int .i64 0, .slice none 0 0, .slice none 0 0]) ?_ 1 _ rfl; refine blk_put (cs := #[.int .i64 0, .int .i64 0, .slice none 0 0, .slice none 0 0]) ?_ 0 _ rfl; (with_reducible repeat (first | refine blk_drewN ?_ _ | refine blk_drew ?_ | refine blk_alloc ?_ _)); exact BR.out) Try.underlying25 rfl (by kernel_rfl)) rfl ?_
        exact ⟨_, _, rfl, Kd.Q_nil _ _ _ _ _, Kd.R_nil _ _ _ _ _, (by repeat (first | (with_reducible first | exact HB.out | apply below_alloc | apply pw_below_drewN | apply below_drew1 | refine below_set ?_ GE_BR.out) | exact HB.out))⟩

end Go.Proofs.Ytkloeccbhjngiaa.PFnExactReadHyper
