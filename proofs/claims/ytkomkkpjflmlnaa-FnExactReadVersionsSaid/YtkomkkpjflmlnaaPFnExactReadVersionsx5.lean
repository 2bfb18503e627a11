-- Written by a program of this repo (xprint.py) out of the translation; Lean checks it.
import Derived.Test.YtkomkkpjflmlnaaPFnExactReadVersionsx0
import Derived.Test.YtkomkkpjflmlnaaPFnExactReadVersionsx4
namespace Go.Proofs.Ytkomkkpjflmlnaa.PFnExactReadVersions
open Go.RowKit Go.Proofs.YtkomkkpjflmlnaaW.PrintWords Go.Proofs.YtkomkkpjflmlnaaW.PrintLast Go.Proofs.YtkomkkpjflmlnaaW.PrintMore
attribute [local go_sem] max2_int min2_int max_two min_two max_three min_three max_four min_four   -- for this text's walks alone
set_option linter.unusedVariables false
set_option linter.unusedSimpArgs false

/-! ### impl_ReadVersions: function 6 -/
def impl_rv.num (k : Nat) (l : List Int) (at_ code : Int) : Option (Int × Int × Int) :=
  if code = 0 then (impl_GetVar.f k l at_).bind fun t => some (if t.2.2 = 0 then (t.1, t.2.1, 0) else (0, at_, t.2.2)) else some (0, at_, code)
def impl_rv.take (l : List Int) (at_ code n : Int) : Option (List Int × Int × Int) :=
  if 0 ≤ at_ ∧ at_ ≤ l.length ∧ l.length ≤ 1000000 then
    (if code = 0 then (if n < 0 ∨ (l.length : Int) - at_ < n then some ([], at_, 2) else some ((l.drop at_.toNat).take n.toNat, at_ + n, 0)) else some ([], at_, code))
  else none
/-- A scanner at block g. -/
def impl_rv.At (w : World) (g : Nat) (A : Option Addr) (c : Nat) (l : List Int) (at_ code : Int) : Prop := w.heap[g]? = some (.cells #[.slice A l.length c, .int .i64 at_, .int .i64 code] 52 (0, 0))
theorem impl_rv.At.c0 {w : World} {g : Nat} {A : Option Addr} {c : Nat} {l : List Int} {at_ code : Int} (h : impl_rv.At w g A c l at_ code) : w.cell? ⟨g, 0, none⟩ = some (.slice A l.length c) := (blk_cell h 0).trans rfl
theorem impl_rv.At.c1 {w : World} {g : Nat} {A : Option Addr} {c : Nat} {l : List Int} {at_ code : Int} (h : impl_rv.At w g A c l at_ code) : w.cell? ⟨g, 1, none⟩ = some (.int .i64 at_) := (blk_cell h 1).trans rfl
theorem impl_rv.At.c2 {w : World} {g : Nat} {A : Option Addr} {c : Nat} {l : List Int} {at_ code : Int} (h : impl_rv.At w g A c l at_ code) : w.cell? ⟨g, 2, none⟩ = some (.int .i64 code) := (blk_cell h 2).trans rfl
/-- What a call on the state at g leaves as it was. -/
def impl_rv.Kp (w w' : World) (g : Nat) : Prop := KeepBut w w' g none ∧ Below g w w'
theorem impl_rv.Kp.refl (w : World) (g : Nat) : impl_rv.Kp w w g := ⟨KeepBut.refl w g none, Below.refl g w⟩
theorem impl_rv.Kp.set {w W : World} {g : Nat} (h : impl_rv.Kp w W g) (j : Nat) (u : Value) : impl_rv.Kp w (W.setCell ⟨g, j, none⟩ u) g := ⟨h.1.set_ j u, h.2.setCell (Nat.le_refl g) u⟩
theorem impl_rv.Kp.drewN {w W : World} {g : Nat} (h : impl_rv.Kp w W g) (n : Nat) : impl_rv.Kp w (W.drewN n) g := ⟨keep_drewN h.1 n, pw_below_drewN h.2 n⟩
theorem impl_rv.Kp.drew {w W : World} {g : Nat} (h : impl_rv.Kp w W g) : impl_rv.Kp w W.drew g := ⟨keep_drew h.1, h.2.drew⟩
theorem impl_rv.Kp.trans {w W W2 : World} {g : Nat} (h : impl_rv.Kp w W g) (k : impl_rv.Kp W W2 g) : impl_rv.Kp w W2 g := ⟨KeepBut.trans h.1 k.1 (.inl rfl), h.2.trans k.2⟩
theorem impl_rv.Kp.below {w W : World} {g B : Nat} (h : impl_rv.Kp w W g) (hg : B ≤ g) : Below B w W := h.2.mono hg
theorem impl_rv.Kp.blk {w W : World} {g g' : Nat} {o : Obj} (h : impl_rv.Kp w W g) (hb : w.heap[g']? = some o) (hne : g' ≠ g) : W.heap[g']? = some o := h.1.blk hb hne (by simp)
set_option maxHeartbeats 8000000 in
set_option maxRecDepth 100000 in
theorem impl_rv.fail_calls (g : Nat) (A : Option Addr) (c : Nat) (l : List Int) (at_ code e0 : Int) (w : World) (HG : impl_rv.At w g A c l at_ code) :
    Calls Try.prog 27 #[.pointer (some ⟨g, 0, none⟩), .int .i64 e0] w fun e w' => e = .returned (.tuple #[]) ∧ impl_rv.At w' g A c l at_ (if code = 0 then e0 else code) ∧ impl_rv.Kp w w' g := by
  have hc0 := HG.c0
  have hc1 := HG.c1
  have hc2 := HG.c2
  have hf2 := blk_frozen HG 2
  have HG' := Aside0.mk HG
  clear HG
  have HK := Aside0.mk (impl_rv.Kp.refl w g)
  by_cases h : code = 0
  · have b0 : (code == 0) = true := beq_iff_eq.2 h
    rw [if_pos h]
    clear h
    go_enter Try.func27, Try.ntmps27
    go_wp2
    first | go_end0 | ((try simp only [Exit.inBlock, Exit.then]); refine bodyPost_ret (results_none rfl _ _ _) rfl ?_)
    exact ⟨rfl, blk_put HG'.out 2 _ rfl, by repeat (first | exact HK.out | apply impl_rv.Kp.set)⟩
  · have b0 : (code == 0) = false := beq_eq_false_iff_ne.2 h
    rw [if_neg h]
    clear h
    go_enter Try.func27, Try.ntmps27
    go_wp2
    first | go_end0 | ((try simp only [Exit.inBlock, Exit.then]); refine bodyPost_ret (results_none rfl _ _ _) rfl ?_)
    exact ⟨rfl, HG'.out, HK.out⟩
set_option maxHeartbeats 8000000 in
set_option maxRecDepth 100000 in
theorem impl_rv.num_calls (k : Nat) (g : Nat) (A : Option Addr) (c : Nat) (l : List Int) (at_ code r1 r2 r3 : Int) (w : World) (HG : impl_rv.At w g A c l at_ code) (hr : Kd.C (Kd.int .u8) w A l.length l) (hc : l.length ≤ c) (h : impl_rv.num k l at_ code = some (r1, r2, r3)) :
    Calls Try.prog 31 #[.pointer (some ⟨g, 0, none⟩)] w fun e w' => e = .returned (.int .i64 r1) ∧ impl_rv.At w' g A c l r2 r3 ∧ impl_rv.Kp w w' g := by
  have hc0 := HG.c0
  have hc1 := HG.c1
  have hc2 := HG.c2
  have hf1 := blk_frozen HG 1
  have hf2 := blk_frozen HG 2
  have HG' := Aside0.mk HG
  clear HG
  have HR := Aside0.mk hr
  have HC := Aside0.mk hc
  clear hr hc
  have HK := Aside0.mk (impl_rv.Kp.refl w g)
  unfold impl_rv.num at h
  by_cases hz : code = 0
  · rw [if_pos hz] at h
    subst hz
    obtain ⟨⟨t1, t2, t3⟩, h1, h2⟩ := Option.bind_eq_some_iff.1 h
    clear h
    have H1 := Aside0.mk h1
    clear h1
    by_cases h3 : t3 = 0
    · rw [if_pos h3] at h2
      simp only [Option.some.injEq, Prod.mk.injEq] at h2
      obtain ⟨rfl, rfl, rfl⟩ := h2
      subst h3
      go_enter Try.func31, Try.ntmps31
      go_wp2
      go_region_held3 (fun w' => w'.cell? ⟨g, 0, none⟩ = some (.slice A l.length c) ∧ w'.cell? ⟨g, 1, none⟩ = some (.int .i64 at_)) (go_keep) (first | (go_at_call 34; refine (impl_GetVar.calls k A c l at_ t1 t2 0 _ (by with_reducible repeat (first | exact HR.out | refine Kd.C_alloc ?_ _ | refine Kd.C_drewN ?_ _ | refine Kd.C_drew ?_)) HC.out H1.out).mono ?_; rintro e w1 ⟨rfl, hd⟩; obtain ⟨m1, hm1⟩ := hd.out; subst hm1; clear hd))
      go_wp2
      go_ret
      exact ⟨rfl, by refine blk_put (cs := #[.slice A l.length c, .int .i64 at_, .int .i64 0]) ?_ 1 _ rfl; (with_reducible repeat (first | refine blk_drewN ?_ _ | refine blk_drew ?_ | refine blk_alloc ?_ _)); exact HG'.out, by repeat (first | (with_reducible first | exact HK.out | apply impl_rv.Kp.set | apply impl_rv.Kp.drewN | apply impl_rv.Kp.drew) | exact HK.out)⟩
    · rw [if_neg h3] at h2
      simp only [Option.some.injEq, Prod.mk.injEq] at h2
      obtain ⟨rfl, rfl, rfl⟩ := h2
      have b3 : (t3 != 0) = true := bne_iff_ne.2 h3
      clear h3
      go_enter Try.func31, Try.ntmps31
      go_wp2
      go_region_held3 (fun w' => w'.cell? ⟨g, 0, none⟩ = some (.slice A l.length c) ∧ w'.cell? ⟨g, 1, none⟩ = some (.int .i64 at_)) (go_keep) (first | (go_at_call 34; refine (impl_GetVar.calls k A c l at_ t1 t2 t3 _ (by with_reducible repeat (first | exact HR.out | refine Kd.C_alloc ?_ _ | refine Kd.C_drewN ?_ _ | refine Kd.C_drew ?_)) HC.out H1.out).mono ?_; rintro e w1 ⟨rfl, hd⟩; obtain ⟨m1, hm1⟩ := hd.out; subst hm1; clear hd))
      go_wp2_with (go_at_call 27; refine (impl_rv.fail_calls g A c l at_ 0 t3 _ (by (with_reducible repeat (first | refine blk_drewN ?_ _ | refine blk_drew ?_ | refine blk_alloc ?_ _)); exact HG'.out)).mono ?_; rintro e w2 ⟨rfl, hg2, hk2⟩; rw [if_pos rfl] at hg2; have HG2 := Aside0.mk hg2; have HK2 := Aside0.mk hk2; clear hg2 hk2)
      go_ret
      exact ⟨rfl, HG2.out, impl_rv.Kp.trans (by repeat (first | (with_reducible first | exact HK.out | apply impl_rv.Kp.set | apply impl_rv.Kp.drewN | apply impl_rv.Kp.drew) | exact HK.out)) HK2.out⟩
  · rw [if_neg hz] at h
    simp only [Option.some.injEq, Prod.mk.injEq] at h
    obtain ⟨rfl, rfl, rfl⟩ := h
    have b0 : (code != 0) = true := bne_iff_ne.2 hz
    clear hz
    go_enter Try.func31, Try.ntmps31
    go_wp2
    go_ret
    exact ⟨rfl, HG'.out, HK.out⟩
/-- What 'take' hands back. -/
def impl_rv.Cut (A : Option Addr) (c : Nat) (l : List Int) (at_ n : Int) (r1 : List Int) (r3 : Int) (v : Value) : Prop :=
  (r3 = 0 ∧ 0 ≤ at_ ∧ 0 ≤ n ∧ at_ + n ≤ l.length ∧ r1 = (l.drop at_.toNat).take n.toNat ∧ v = .slice (if c = at_.toNat then A else A.map (·.add at_.toNat)) n.toNat (c - at_.toNat)) ∨ (r3 ≠ 0 ∧ r1 = [] ∧ v = .slice none 0 0)
set_option maxHeartbeats 8000000 in
set_option maxRecDepth 100000 in
theorem impl_rv.take_calls (g : Nat) (A : Option Addr) (c : Nat) (l : List Int) (at_ code n r2 r3 : Int) (r1 : List Int) (w : World) (HG : impl_rv.At w g A c l at_ code) (hr : Kd.C (Kd.int .u8) w A l.length l) (hc : l.length ≤ c) (h : impl_rv.take l at_ code n = some (r1, r2, r3)) :
    Calls Try.prog 29 #[.pointer (some ⟨g, 0, none⟩), .int .i64 n] w fun e w' => (∃ v : Value, e = .returned v ∧ impl_rv.Cut A c l at_ n r1 r3 v) ∧ impl_rv.At w' g A c l r2 r3 ∧ impl_rv.Kp w w' g := by
  have hc0 := HG.c0
  have hc1 := HG.c1
  have hc2 := HG.c2
  have hf1 := blk_frozen HG 1
  have hf2 := blk_frozen HG 2
  have HG' := Aside0.mk HG
  clear HG
  have HR := Aside0.mk hr
  have HC := Aside0.mk hc
  have HK := Aside0.mk (impl_rv.Kp.refl w g)
  unfold impl_rv.take at h
  by_cases hb : 0 ≤ at_ ∧ at_ ≤ l.length ∧ l.length ≤ 1000000
  · rw [if_pos hb] at h
    obtain ⟨b1, b2, b3⟩ := hb
    by_cases hz : code = 0
    · rw [if_pos hz] at h
      subst hz
      by_cases hn : n < 0 ∨ (l.length : Int) - at_ < n
      have e0 : IntKind.i64.wrap ((l.length : Int) - at_) = (l.length : Int) - at_ := IntWalk.i64_in _ (by omega)
      · rw [if_pos hn] at h
        simp only [Option.some.injEq, Prod.mk.injEq] at h
        obtain ⟨rfl, rfl, rfl⟩ := h
        have hn' := Aside0.mk hn
        clear hr hc
        by_cases hn1 : n < 0
        · have q1 : decide (n < 0) = true := decide_eq_true hn1
          clear hn hn1
          go_enter Try.func29, Try.ntmps29
          go_wp2
          go_quiet (fail)
          go_wp2_with (first | (go_at_call 27; refine (impl_rv.fail_calls g A c l at_ 0 2 _ (by (with_reducible repeat (first | refine blk_drewN ?_ _ | refine blk_drew ?_ | refine blk_alloc ?_ _)); exact HG'.out)).mono ?_; rintro e w2 ⟨rfl, hg2, hk2⟩; rw [if_pos rfl] at hg2; have HG2 := Aside0.mk hg2; have HK2 := Aside0.mk hk2; clear hg2 hk2))
          go_ret
          exact ⟨⟨_, rfl, .inr ⟨by decide, rfl, rfl⟩⟩, HG2.out, impl_rv.Kp.trans (by repeat (first | (with_reducible first | exact HK.out | apply impl_rv.Kp.set | apply impl_rv.Kp.drewN | apply impl_rv.Kp.drew) | exact HK.out)) HK2.out⟩
        · have q1 : decide (n < 0) = false := decide_eq_false hn1
          have q2 : decide ((l.length : Int) - at_ < n) = true := decide_eq_true (by omega)
          clear hn
          go_enter Try.func29, Try.ntmps29
          go_wp2
          go_quiet (fail)
          go_wp2_with (first | (go_at_call 27; refine (impl_rv.fail_calls g A c l at_ 0 2 _ (by (with_reducible repeat (first | refine blk_drewN ?_ _ | refine blk_drew ?_ | refine blk_alloc ?_ _)); exact HG'.out)).mono ?_; rintro e w2 ⟨rfl, hg2, hk2⟩; rw [if_pos rfl] at hg2; have HG2 := Aside0.mk hg2; have HK2 := Aside0.mk hk2; clear hg2 hk2))
          go_ret
          exact ⟨⟨_, rfl, .inr ⟨by decide, rfl, rfl⟩⟩, HG2.out, impl_rv.Kp.trans (by repeat (first | (with_reducible first | exact HK.out | apply impl_rv.Kp.set | apply impl_rv.Kp.drewN | apply impl_rv.Kp.drew) | exact HK.out)) HK2.out⟩
      · rw [if_neg hn] at h
        simp only [Option.some.injEq, Prod.mk.injEq] at h
        obtain ⟨rfl, rfl, rfl⟩ := h
        have q1 : decide (n < 0) = false := decide_eq_false (by omega)
        have q2 : decide ((l.length : Int) - at_ < n) = false := decide_eq_false (by omega)
        have e1 : IntKind.i64.wrap (at_ + n) = at_ + n := IntWalk.i64_in _ (by omega)
        have b4 : at_ ≤ at_ + n := by omega
        have b5 : at_ + n ≤ (c : Int) := by omega
        go_enter Try.func29, Try.ntmps29
        go_wp2
        go_quiet (fail)
        go_wp2
        go_quiet (fail)
        go_wp2
        all_goals go_ret
        · have hcc : c = at_.toNat := by assumption
          subst hcc
          exact ⟨⟨_, rfl, .inl ⟨rfl, b1, by omega, by omega, rfl, by rw [if_pos rfl, Nat.sub_self, show (at_ + n).toNat - at_.toNat = n.toNat by omega]; rfl⟩⟩, by (with_reducible repeat (first | refine blk_drewN ?_ _ | refine blk_drew ?_ | refine blk_alloc ?_ _)); refine blk_put (cs := #[.slice A l.length at_.toNat, .int .i64 at_, .int .i64 0]) ?_ 1 _ rfl; (with_reducible repeat (first | refine blk_drewN ?_ _ | refine blk_drew ?_ | refine blk_alloc ?_ _)); exact HG'.out, by repeat (first | (with_reducible first | exact HK.out | apply impl_rv.Kp.set | apply impl_rv.Kp.drewN | apply impl_rv.Kp.drew) | exact HK.out)⟩
        · exact ⟨⟨_, rfl, .inl ⟨rfl, b1, by omega, by omega, rfl, by rw [if_neg (by assumption), show (at_ + n).toNat - at_.toNat = n.toNat by omega]; rfl⟩⟩, by (with_reducible repeat (first | refine blk_drewN ?_ _ | refine blk_drew ?_ | refine blk_alloc ?_ _)); refine blk_put (cs := #[.slice A l.length c, .int .i64 at_, .int .i64 0]) ?_ 1 _ rfl; (with_reducible repeat (first | refine blk_drewN ?_ _ | refine blk_drew ?_ | refine blk_alloc ?_ _)); exact HG'.out, by repeat (first | (with_reducible first | exact HK.out | apply impl_rv.Kp.set | apply impl_rv.Kp.drewN | apply impl_rv.Kp.drew) | exact HK.out)⟩
    · rw [if_neg hz] at h
      simp only [Option.some.injEq, Prod.mk.injEq] at h
      obtain ⟨rfl, rfl, rfl⟩ := h
      have q0 : (code != 0) = true := bne_iff_ne.2 hz
      have HZ := Aside0.mk hz
      clear hz hr hc
      go_enter Try.func29, Try.ntmps29
      go_wp2
      go_ret
      exact ⟨⟨_, rfl, .inr ⟨HZ.out, rfl, rfl⟩⟩, HG'.out, HK.out⟩
  · rw [if_neg hb] at h; exact absurd h (by simp)
theorem impl_rv.cwp_seal {P : Program} {c : Code} {Q : Exit → Act → World → Prop} {a : Act} {W : World} (F : World → Prop) (h : F W) (k : ∀ W', F W' → Code.wp P c Q a W') : Code.wp P c Q a W := k W h
theorem impl_rv.next_ {P : Program} {c : Code} {Q : Exit → Act → World → Prop} {K : Act → World → Prop} {a : Act} {W : World} (h : ∀ (a : Act) (w : World), Code.wp P c Q a w → K a w) (k : Code.wp P c Q a W) : K a W := h a W k
theorem impl_rv.Kp.step {w W W2 : World} {g : Nat} (h : impl_rv.Kp w W g) (hg : g ≤ w.heap.size) (hb : Below W.heap.size W W2) : impl_rv.Kp w W2 g := ⟨KeepBut.trans h.1 (KeepBut.of_below hb g none) (.inl rfl), h.2.trans (hb.mono (Nat.le_trans hg h.1.1))⟩
theorem impl_rv.Cut.C {A : Option Addr} {c : Nat} {l : List Int} {at_ n : Int} {r1 : List Int} {r3 : Int} {v : Value} {w : World} (h : impl_rv.Cut A c l at_ n r1 r3 v) (hr : Kd.C (Kd.int .u8) w A l.length l) (hc : l.length ≤ c) : ∃ A' c', v = .slice A' r1.length c' ∧ Kd.C (Kd.int .u8) w A' r1.length r1 ∧ r1.length ≤ c' := by
  rcases h with ⟨_, h0, hn, hl, rfl, rfl⟩ | ⟨_, rfl, rfl⟩
  · have hm : at_.toNat ≤ l.length := by omega
    have e1 : ((l.drop at_.toNat).take n.toNat).length = n.toNat := by rw [List.length_take, List.length_drop]; omega
    have h1 := Kd.C_drop hr hm hc
    have h2 := Kd.C_take h1 (m := n.toNat) (by rw [List.length_drop]; omega)
    refine ⟨_, _, by rw [e1], ?_, by rw [e1]; omega⟩
    have e2 : at_.toNat * (Kd.int .u8).sz = at_.toNat := Nat.mul_one _
    rw [e2] at h2
    exact h2
  · exact ⟨none, 0, rfl, Kd.C_nil _ _, Nat.le_refl _⟩
theorem impl_rv.c8 {W : World} {g t : Nat} {a0 a1 a2 a3 a4 a5 a6 a7 : Value} (h : W.heap[g]? = some (.cells #[a0, a1, a2, a3, a4, a5, a6, a7] t (0, 0))) :
    W.cell? ⟨g, 0, none⟩ = some a0 ∧ W.frozen? ⟨g, 0, none⟩ = false ∧ W.cell? ⟨g, 1, none⟩ = some a1 ∧ W.frozen? ⟨g, 1, none⟩ = false ∧ W.cell? ⟨g, 2, none⟩ = some a2 ∧ W.frozen? ⟨g, 2, none⟩ = false ∧ W.cell? ⟨g, 3, none⟩ = some a3 ∧ W.frozen? ⟨g, 3, none⟩ = false ∧ W.cell? ⟨g, 4, none⟩ = some a4 ∧ W.frozen? ⟨g, 4, none⟩ = false ∧ W.cell? ⟨g, 5, none⟩ = some a5 ∧ W.frozen? ⟨g, 5, none⟩ = false ∧ W.cell? ⟨g, 6, none⟩ = some a6 ∧ W.frozen? ⟨g, 6, none⟩ = false ∧ W.cell? ⟨g, 7, none⟩ = some a7 ∧ W.frozen? ⟨g, 7, none⟩ = false :=
  ⟨(blk_cell h 0).trans rfl, blk_frozen h 0, (blk_cell h 1).trans rfl, blk_frozen h 1, (blk_cell h 2).trans rfl, blk_frozen h 2, (blk_cell h 3).trans rfl, blk_frozen h 3, (blk_cell h 4).trans rfl, blk_frozen h 4, (blk_cell h 5).trans rfl, blk_frozen h 5, (blk_cell h 6).trans rfl, blk_frozen h 6, (blk_cell h 7).trans rfl, blk_frozen h 7⟩
theorem impl_rv.c3 {W : World} {g : Nat} {A : Option Addr} {c : Nat} {l : List Int} {a : Int} {d : Int} (h : impl_rv.At W g A c l a d) :
    W.cell? ⟨g, 0, none⟩ = some (.slice A l.length c) ∧ W.frozen? ⟨g, 0, none⟩ = false ∧ W.cell? ⟨g, 1, none⟩ = some (.int .i64 a) ∧ W.frozen? ⟨g, 1, none⟩ = false ∧ W.cell? ⟨g, 2, none⟩ = some (.int .i64 d) ∧ W.frozen? ⟨g, 2, none⟩ = false :=
  ⟨(blk_cell h 0).trans rfl, blk_frozen h 0, (blk_cell h 1).trans rfl, blk_frozen h 1, (blk_cell h 2).trans rfl, blk_frozen h 2⟩
/-- The bytes of the call's argument, seen from the world of the function's start. -/
structure impl_rv.In (w0 : World) (A : Option Addr) (c : Nat) (l : List Int) : Prop where
  r : Kd.C (Kd.int .u8) w0 A l.length l
  c : l.length ≤ c
  n : l.length ≤ 65536
theorem impl_rv.tk_calls (g : Nat) (A : Option Addr) (c : Nat) (l : List Int) (at_ code n r2 r3 : Int) (r1 : List Int) (m : Nat) (w0 w : World) (HB : Below w0.heap.size w0 w) (hg : w0.heap.size ≤ g) (HG : impl_rv.At w g A c l at_ code) (hi : impl_rv.In w0 A c l) (h : impl_rv.take l at_ code n = some (r1, r2, r3)) (hm : r1.length = m) :
    Calls Try.prog 29 #[.pointer (some ⟨g, 0, none⟩), .int .i64 n] w fun e w' => ∃ A' c', e = .returned (.slice A' m c') ∧ Kd.C (Kd.int .u8) w' A' m r1 ∧ m ≤ c' ∧ impl_rv.At w' g A c l r2 r3 ∧ impl_rv.Kp w w' g := by
  subst hm
  refine (impl_rv.take_calls g A c l at_ code n r2 r3 r1 w HG (Kd.C_below hi.r HB) hi.c h).mono ?_
  rintro e w' ⟨⟨v, rfl, hv⟩, hg', hk'⟩
  obtain ⟨A', c', rfl, hC, hle⟩ := hv.C (Kd.C_below hi.r (HB.trans (hk'.below hg))) hi.c
  exact ⟨A', c', rfl, hC, hle, hg', hk'⟩
def impl_rv.hd (q : List Int) : Int := wrap64 (q.headD 0)
theorem impl_rv.hd_nil : impl_rv.hd [] = 0 := by show wrap64 0 = 0; decide +kernel
theorem impl_rv.take_len (l : List Int) (at_ code n r2 r3 : Int) (r1 : List Int) (h : impl_rv.take l at_ code n = some (r1, r2, r3)) : (r1.length = n.toNat ∧ 0 ≤ n ∧ r3 = 0 ∧ code = 0 ∧ r2 = at_ + n ∧ 0 ≤ at_ ∧ r2 ≤ l.length) ∨ (r1 = [] ∧ r3 ≠ 0) := by
  unfold impl_rv.take at h
  by_cases hb : 0 ≤ at_ ∧ at_ ≤ l.length ∧ l.length ≤ 1000000
  · rw [if_pos hb] at h
    by_cases hz : code = 0
    · rw [if_pos hz] at h
      by_cases hn : n < 0 ∨ (l.length : Int) - at_ < n
      · rw [if_pos hn] at h
        simp only [Option.some.injEq, Prod.mk.injEq] at h
        obtain ⟨rfl, rfl, rfl⟩ := h
        exact .inr ⟨rfl, by decide⟩
      · rw [if_neg hn] at h
        simp only [Option.some.injEq, Prod.mk.injEq] at h
        obtain ⟨rfl, rfl, rfl⟩ := h
        exact .inl ⟨by rw [List.length_take, List.length_drop]; omega, by omega, rfl, hz, rfl, by omega, by omega⟩
    · rw [if_neg hz] at h
      simp only [Option.some.injEq, Prod.mk.injEq] at h
      obtain ⟨rfl, rfl, rfl⟩ := h
      exact .inr ⟨rfl, hz⟩
  · rw [if_neg hb] at h; exact absurd h (by simp)
set_option maxHeartbeats 8000000 in
set_option maxRecDepth 100000 in
theorem impl_rv.octet_calls (g : Nat) (A : Option Addr) (c : Nat) (l : List Int) (at_ code r2 r3 : Int) (q : List Int) (w0 w : World) (HB : Below w0.heap.size w0 w) (hg : w0.heap.size ≤ g) (HG : impl_rv.At w g A c l at_ code) (hi : impl_rv.In w0 A c l) (h : impl_rv.take l at_ code 1 = some (q, r2, r3)) :
    Calls Try.prog 26 #[.pointer (some ⟨g, 0, none⟩)] w fun e w' => e = .returned (.int .i64 (impl_rv.hd q)) ∧ impl_rv.At w' g A c l r2 r3 ∧ impl_rv.Kp w w' g := by
  have HGL := Aside0.mk (Nat.le_of_lt (blk_lt HG))
  have HG' := Aside0.mk HG
  have HB' := Aside0.mk HB
  have HI := Aside0.mk hi
  have HGG := Aside0.mk hg
  have HK := Aside0.mk (impl_rv.Kp.refl w g)
  have H := Aside0.mk h
  have hl := impl_rv.take_len l at_ code 1 r2 r3 q h
  clear HG HB hi hg h
  rcases hl with ⟨hq, _⟩ | ⟨hq, _⟩
  · obtain ⟨x, rfl⟩ : ∃ x, q = [x] := List.length_eq_one_iff.1 hq
    clear hq
    go_enter Try.func26, Try.ntmps26
    go_upto_region 2 with (first | (go_at_call 29; refine (impl_rv.tk_calls g A c l at_ code 1 r2 r3 [x] 1 w0 _ (by repeat (first | (with_reducible first | exact HB'.out | apply below_alloc | apply pw_below_drewN | apply below_drew1) | exact HB'.out)) HGG.out (by (with_reducible repeat (first | refine blk_drewN ?_ _ | refine blk_drew ?_ | refine blk_alloc ?_ _)); exact HG'.out) HI.out H.out rfl).mono ?_; rintro e w1 ⟨A1, c1, rfl, hc_, hcl_, hg_, hk_⟩; have HC1 := Aside0.mk hc_; have HG1 := Aside0.mk hg_; have HK1 := Aside0.mk hk_; clear hc_ hcl_ hg_ hk_))
    obtain ⟨ad, e1, hx⟩ := Kd.at_int HC1.out 0 (by decide) (by decide)
    cases e1
    have hx1 : w1.cell? ad = some (Value.int .u8 x) := hx
    clear hx
    go_wp2
    go_ret
    exact ⟨rfl, HG1.out, HK1.out⟩
  · subst hq
    go_enter Try.func26, Try.ntmps26
    go_upto_region 2 with (first | (go_at_call 29; refine (impl_rv.tk_calls g A c l at_ code 1 r2 r3 [] 0 w0 _ (by repeat (first | (with_reducible first | exact HB'.out | apply below_alloc | apply pw_below_drewN | apply below_drew1) | exact HB'.out)) HGG.out (by (with_reducible repeat (first | refine blk_drewN ?_ _ | refine blk_drew ?_ | refine blk_alloc ?_ _)); exact HG'.out) HI.out H.out rfl).mono ?_; rintro e w1 ⟨A1, c1, rfl, hc_, hcl_, hg_, hk_⟩; have HC1 := Aside0.mk hc_; have HG1 := Aside0.mk hg_; have HK1 := Aside0.mk hk_; clear hc_ hcl_ hg_ hk_))
    go_wp2
    go_ret
    exact ⟨by rw [impl_rv.hd_nil]; rfl, HG1.out, HK1.out⟩
theorem impl_rv.take_le (l : List Int) (at_ code n r2 r3 : Int) (r1 : List Int) (h : impl_rv.take l at_ code n = some (r1, r2, r3)) : r1.length ≤ l.length := by
  rcases impl_rv.take_len l at_ code n r2 r3 r1 h with ⟨h1, h2, _, _, h3, h4, h5⟩ | ⟨h1, _⟩
  · omega
  · rw [h1]; exact Nat.zero_le _
theorem impl_rv.copied_is (q : List Int) (h : q.length ≤ 65536) : impl_copied.f q = some q := by
  unfold impl_copied.f
  show (if ([] : List Int).length + q.length < 140737488355328 then some ([] ++ q) else none) = some q
  rw [if_pos (by simp; omega), List.nil_append]
def impl_rv.cid (l : List Int) (at_ code : Int) : Option (List Int × Int × Int) :=
  (impl_rv.take l at_ code 1).bind fun o => impl_rv.take l o.2.1 (if 8 < impl_rv.hd o.1 ∧ o.2.2 = 0 then 3 else o.2.2) (impl_rv.hd o.1)
set_option maxHeartbeats 8000000 in
set_option maxRecDepth 100000 in
theorem impl_rv.cid_calls (g : Nat) (A : Option Addr) (c : Nat) (l : List Int) (at_ code r2 r3 : Int) (q : List Int) (w0 w : World) (HB : Below w0.heap.size w0 w) (hg : w0.heap.size ≤ g) (HG : impl_rv.At w g A c l at_ code) (hi : impl_rv.In w0 A c l) (h : impl_rv.cid l at_ code = some (q, r2, r3)) :
    Calls Try.prog 30 #[.pointer (some ⟨g, 0, none⟩)] w fun e w' => (∃ A' c', e = .returned (.slice A' q.length c')) ∧ impl_rv.At w' g A c l r2 r3 ∧ impl_rv.Kp w w' g := by
  have HGL := Aside0.mk (Nat.le_of_lt (blk_lt HG))
  have HB0 := Aside0.mk HB
  have HI := Aside0.mk hi
  have HGG := Aside0.mk hg
  unfold impl_rv.cid at h
  obtain ⟨⟨o, p, d⟩, h1, h2⟩ := Option.bind_eq_some_iff.1 h
  obtain ⟨d3, hd3⟩ : ∃ d3 : Int, d3 = (if 8 < impl_rv.hd o ∧ d = 0 then 3 else d) := ⟨_, rfl⟩
  dsimp only at h2
  rw [← hd3] at h2
  have H1 := Aside0.mk h1
  have H2 := Aside0.mk h2
  have HQ := Aside0.mk (show q.length ≤ 65536 from Nat.le_trans (impl_rv.take_le l p d3 _ r2 r3 q h2) hi.n)
  have HN := Aside0.mk (impl_rv.In.c hi)
  have HS := Aside0.mk (⟨HG, impl_rv.Kp.refl w g⟩ : impl_rv.At w g A c l at_ code ∧ impl_rv.Kp w w g)
  obtain ⟨n, hn⟩ : ∃ n : Int, n = impl_rv.hd o := ⟨_, rfl⟩
  rw [← hn] at hd3 h2
  have H2 := Aside0.mk h2
  have HNN := Aside0.mk hn
  clear HG HB hi hg h h1 h2
  by_cases c8 : 8 < n
  · have q8 : decide (8 < n) = true := decide_eq_true c8
    have D3 := Aside0.mk (show d3 = (if d = 0 then 3 else d) by rw [hd3]; simp [c8])
    clear c8 hd3 hn
    go_enter Try.func30, Try.ntmps30
    go_upto_region 2 with (first | (go_at_call 26; refine (impl_rv.octet_calls g A c l at_ code p d o w0 _ (HB0.out.trans (impl_rv.Kp.below (by repeat (first | (with_reducible first | exact HS.out.2 | apply impl_rv.Kp.set | apply impl_rv.Kp.drewN | apply impl_rv.Kp.drew) | exact HS.out.2)) HGG.out)) HGG.out (by (with_reducible repeat (first | refine blk_drewN ?_ _ | refine blk_drew ?_ | refine blk_alloc ?_ _)); exact HS.out.1) HI.out H1.out).mono ?_; rintro e w1 ⟨rfl, hg_, hk_⟩; rw [← HNN.out]; have hs_ := Aside0.mk (⟨hg_, impl_rv.Kp.trans (by repeat (first | (with_reducible first | exact HS.out.2 | apply impl_rv.Kp.set | apply impl_rv.Kp.drewN | apply impl_rv.Kp.drew) | exact HS.out.2)) hk_⟩ : impl_rv.At w1 g A c l _ _ ∧ impl_rv.Kp w w1 g); clear HS; have HS := hs_; clear hs_ hg_ hk_))
    go_upto_region 4 with (first | (go_at_call 27; refine (impl_rv.fail_calls g A c l p d 3 _ (by (with_reducible repeat (first | refine blk_drewN ?_ _ | refine blk_drew ?_ | refine blk_alloc ?_ _)); exact HS.out.1)).mono ?_; rintro e w2 ⟨rfl, hg_, hk_⟩; rw [← D3.out] at hg_; have hs_ := Aside0.mk (⟨hg_, impl_rv.Kp.trans (by repeat (first | (with_reducible first | exact HS.out.2 | apply impl_rv.Kp.set | apply impl_rv.Kp.drewN | apply impl_rv.Kp.drew) | exact HS.out.2)) hk_⟩ : impl_rv.At w2 g A c l _ _ ∧ impl_rv.Kp w w2 g); clear HS; have HS := hs_; clear hs_ hg_ hk_))
    refine impl_rv.cwp_seal (fun W_ => impl_rv.At W_ g A c l _ _ ∧ impl_rv.Kp w W_ g) ⟨(by (with_reducible repeat (first | refine blk_drewN ?_ _ | refine blk_drew ?_ | refine blk_alloc ?_ _)); exact HS.out.1), (by repeat (first | (with_reducible first | exact HS.out.2 | apply impl_rv.Kp.set | apply impl_rv.Kp.drewN | apply impl_rv.Kp.drew) | exact HS.out.2))⟩ ?_
    clear HS
    rintro w4 hs_
    have HS := Aside0.mk hs_
    clear hs_
    go_wp2_with (first | (go_at_call 29; refine (impl_rv.tk_calls g A c l p d3 n r2 r3 q q.length w0 _ (HB0.out.trans (impl_rv.Kp.below (by repeat (first | (with_reducible first | exact HS.out.2 | apply impl_rv.Kp.set | apply impl_rv.Kp.drewN | apply impl_rv.Kp.drew) | exact HS.out.2)) HGG.out)) HGG.out (by (with_reducible repeat (first | refine blk_drewN ?_ _ | refine blk_drew ?_ | refine blk_alloc ?_ _)); exact HS.out.1) HI.out H2.out rfl).mono ?_; rintro e w5 ⟨A5, c5, rfl, hc_, hcl_, hg_, hk_⟩; have HC5 := Aside0.mk hc_; have HL5 := Aside0.mk hcl_; clear hc_ hcl_; have hs_ := Aside0.mk (⟨hg_, impl_rv.Kp.trans (by repeat (first | (with_reducible first | exact HS.out.2 | apply impl_rv.Kp.set | apply impl_rv.Kp.drewN | apply impl_rv.Kp.drew) | exact HS.out.2)) hk_⟩ : impl_rv.At w5 g A c l _ _ ∧ impl_rv.Kp w w5 g); clear HS; have HS := hs_; clear hs_ hg_ hk_) | (go_at_call 28; refine (impl_copied.calls A5 c5 q q _ (by with_reducible repeat (first | exact HC5.out | refine Kd.C_alloc ?_ _ | refine Kd.C_drewN ?_ _ | refine Kd.C_drew ?_)) HL5.out (impl_rv.copied_is q HQ.out)).mono ?_; rintro e w6 ⟨vp_, rfl, ho_, hb_⟩; obtain ⟨Ap, cp, rfl⟩ := Kd.R_slice ho_; have hs_ := Aside0.mk (⟨blk_below (g := g) (o := .cells #[.slice A l.length c, .int .i64 _, .int .i64 _] 52 (0, 0)) (by (with_reducible repeat (first | refine blk_drewN ?_ _ | refine blk_drew ?_ | refine blk_alloc ?_ _)); exact HS.out.1) hb_, impl_rv.Kp.step (by repeat (first | (with_reducible first | exact HS.out.2 | apply impl_rv.Kp.set | apply impl_rv.Kp.drewN | apply impl_rv.Kp.drew) | exact HS.out.2)) HGL.out hb_⟩ : impl_rv.At w6 g A c l _ _ ∧ impl_rv.Kp w w6 g); clear HS; have HS := hs_; clear hs_ ho_ hb_))
    go_ret
    exact ⟨⟨_, _, rfl⟩, (by (with_reducible repeat (first | refine blk_drewN ?_ _ | refine blk_drew ?_ | refine blk_alloc ?_ _)); exact HS.out.1), (by repeat (first | (with_reducible first | exact HS.out.2 | apply impl_rv.Kp.set | apply impl_rv.Kp.drewN | apply impl_rv.Kp.drew) | exact HS.out.2))⟩
  · have q8 : decide (8 < n) = false := decide_eq_false c8
    have D3 := Aside0.mk (show d3 = d by rw [hd3, if_neg (fun h_ => c8 h_.1)])
    clear c8 hd3 hn
    go_enter Try.func30, Try.ntmps30
    go_upto_region 2 with (first | (go_at_call 26; refine (impl_rv.octet_calls g A c l at_ code p d o w0 _ (HB0.out.trans (impl_rv.Kp.below (by repeat (first | (with_reducible first | exact HS.out.2 | apply impl_rv.Kp.set | apply impl_rv.Kp.drewN | apply impl_rv.Kp.drew) | exact HS.out.2)) HGG.out)) HGG.out (by (with_reducible repeat (first | refine blk_drewN ?_ _ | refine blk_drew ?_ | refine blk_alloc ?_ _)); exact HS.out.1) HI.out H1.out).mono ?_; rintro e w1 ⟨rfl, hg_, hk_⟩; rw [← HNN.out]; have hs_ := Aside0.mk (⟨hg_, impl_rv.Kp.trans (by repeat (first | (with_reducible first | exact HS.out.2 | apply impl_rv.Kp.set | apply impl_rv.Kp.drewN | apply impl_rv.Kp.drew) | exact HS.out.2)) hk_⟩ : impl_rv.At w1 g A c l _ _ ∧ impl_rv.Kp w w1 g); clear HS; have HS := hs_; clear hs_ hg_ hk_))
    go_upto_region 4 with (fail)
    have e3 := D3.out
    subst e3
    refine impl_rv.cwp_seal (fun W_ => impl_rv.At W_ g A c l _ _ ∧ impl_rv.Kp w W_ g) ⟨(by (with_reducible repeat (first | refine blk_drewN ?_ _ | refine blk_drew ?_ | refine blk_alloc ?_ _)); exact HS.out.1), (by repeat (first | (with_reducible first | exact HS.out.2 | apply impl_rv.Kp.set | apply impl_rv.Kp.drewN | apply impl_rv.Kp.drew) | exact HS.out.2))⟩ ?_
    clear HS
    rintro w4 hs_
    have HS := Aside0.mk hs_
    clear hs_
    go_wp2_with (first | (go_at_call 29; refine (impl_rv.tk_calls g A c l p d3 n r2 r3 q q.length w0 _ (HB0.out.trans (impl_rv.Kp.below (by repeat (first | (with_reducible first | exact HS.out.2 | apply impl_rv.Kp.set | apply impl_rv.Kp.drewN | apply impl_rv.Kp.drew) | exact HS.out.2)) HGG.out)) HGG.out (by (with_reducible repeat (first | refine blk_drewN ?_ _ | refine blk_drew ?_ | refine blk_alloc ?_ _)); exact HS.out.1) HI.out H2.out rfl).mono ?_; rintro e w5 ⟨A5, c5, rfl, hc_, hcl_, hg_, hk_⟩; have HC5 := Aside0.mk hc_; have HL5 := Aside0.mk hcl_; clear hc_ hcl_; have hs_ := Aside0.mk (⟨hg_, impl_rv.Kp.trans (by repeat (first | (with_reducible first | exact HS.out.2 | apply impl_rv.Kp.set | apply impl_rv.Kp.drewN | apply impl_rv.Kp.drew) | exact HS.out.2)) hk_⟩ : impl_rv.At w5 g A c l _ _ ∧ impl_rv.Kp w w5 g); clear HS; have HS := hs_; clear hs_ hg_ hk_) | (go_at_call 28; refine (impl_copied.calls A5 c5 q q _ (by with_reducible repeat (first | exact HC5.out | refine Kd.C_alloc ?_ _ | refine Kd.C_drewN ?_ _ | refine Kd.C_drew ?_)) HL5.out (impl_rv.copied_is q HQ.out)).mono ?_; rintro e w6 ⟨vp_, rfl, ho_, hb_⟩; obtain ⟨Ap, cp, rfl⟩ := Kd.R_slice ho_; have hs_ := Aside0.mk (⟨blk_below (g := g) (o := .cells #[.slice A l.length c, .int .i64 _, .int .i64 _] 52 (0, 0)) (by (with_reducible repeat (first | refine blk_drewN ?_ _ | refine blk_drew ?_ | refine blk_alloc ?_ _)); exact HS.out.1) hb_, impl_rv.Kp.step (by repeat (first | (with_reducible first | exact HS.out.2 | apply impl_rv.Kp.set | apply impl_rv.Kp.drewN | apply impl_rv.Kp.drew) | exact HS.out.2)) HGL.out hb_⟩ : impl_rv.At w6 g A c l _ _ ∧ impl_rv.Kp w w6 g); clear HS; have HS := hs_; clear hs_ ho_ hb_))
    go_ret
    exact ⟨⟨_, _, rfl⟩, (by (with_reducible repeat (first | refine blk_drewN ?_ _ | refine blk_drew ?_ | refine blk_alloc ?_ _)); exact HS.out.1), (by repeat (first | (with_reducible first | exact HS.out.2 | apply impl_rv.Kp.set | apply impl_rv.Kp.drewN | apply impl_rv.Kp.drew) | exact HS.out.2))⟩
def impl_rv.quo (b : Int) : Int := (wrap64 (b - 192)).tdiv 16
def impl_rv.mid (k : Nat) (l : List Int) (q at_ : Int) : Option (Int × Int) :=
  if q = 2 then some (at_, 0) else (impl_rv.num k l at_ 0).bind fun n => (impl_rv.take l n.2.1 (if 64 < n.1 ∧ n.2.2 = 0 then 3 else n.2.2) n.1).bind fun t => some (t.2.1, t.2.2)
def impl_rv.rest3 (k : Nat) (l : List Int) (form : Int) (dl sl : Nat) (at_ code : Int) : Option (Int × Nat × Nat × Int) :=
  (impl_rv.num k l at_ code).bind fun n => (impl_rv.take l n.2.1 (if n.2.2 = 0 ∧ (n.1 < 12 ∨ 1508 < n.1) then 3 else n.2.2) n.1).bind fun t => some (form, dl, sl, t.2.2)
def impl_rv.rest2 (k : Nat) (l : List Int) (b ver : Int) (dl sl : Nat) (at_ code : Int) : Option (Int × Nat × Nat × Int) :=
  if code = 0 then
    (if 0 ≤ at_ ∧ at_ ≤ l.length then
      (if ver = 0 then (impl_versionsOf.f k (l.drop at_.toNat)).bind fun t => some (5, dl, sl, if b = 128 ∧ t.2 = true then 0 else 3)
      else if b < 192 ∨ impl_rv.quo b = 1 then some (0, dl, sl, 3)
      else if impl_rv.quo b = 3 then some (3, dl, sl, if (l.length : Int) - at_ < 9 then 2 else if 64 < (l.length : Int) - at_ - 8 then 3 else 0)
      else (impl_rv.mid k l (impl_rv.quo b) at_).bind fun m => impl_rv.rest3 k l (if impl_rv.quo b = 2 then 2 else 1) dl sl m.1 m.2)
    else none)
  else some (0, dl, sl, code)
def impl_rv.rest1 (k : Nat) (l : List Int) (b at_ code : Int) : Option (Int × Nat × Nat × Int) :=
  (impl_rv.take l at_ code 4).bind fun v => (impl_unfixed.f k v.1).bind fun ver => (impl_rv.cid l v.2.1 v.2.2).bind fun d => (impl_rv.cid l d.2.1 d.2.2).bind fun s => impl_rv.rest2 k l b ver d.1.length s.1.length s.2.1 s.2.2
def impl_rv.peek (k : Nat) (l : List Int) : Option (Int × Nat × Nat × Int) :=
  (impl_rv.take l 0 0 1).bind fun o =>
    if o.2.2 = 0 ∧ 64 ≤ impl_rv.hd o.1 ∧ impl_rv.hd o.1 < 128 then
      (impl_rv.take l o.2.1 o.2.2 0).bind fun d => (impl_rv.take l d.2.1 d.2.2 12).bind fun m => some (4, d.1.length, 0, m.2.2)
    else impl_rv.rest1 k l (impl_rv.hd o.1) o.2.1 (if impl_rv.hd o.1 < 64 ∧ o.2.2 = 0 then 3 else o.2.2)
/-- What peek knows: gr: the result's block, gs: the scanner's, gh: the header's. -/
structure impl_rv.PK (w W : World) (gr gs gh : Nat) (A : Option Addr) (c : Nat) (l : List Int) (at_ code : Int) (cs : Array Value) : Prop where
  b : Below w.heap.size w W
  r : W.heap[gr]? = some (.cells #[.int .i64 0, .int .i64 0, .slice none 0 0, .slice none 0 0, .slice none 0 0, .int .i64 0, .int .i64 0, .int .i64 0] 33 (0, 0))
  s : impl_rv.At W gs A c l at_ code
  h : W.heap[gh]? = some (.cells cs 33 (0, 0))
  gr_ : w.heap.size ≤ gr
  gs_ : w.heap.size ≤ gs
  gh_ : w.heap.size ≤ gh
  rs : gr ≠ gs
  rh : gr ≠ gh
  sh : gs ≠ gh
section
variable {w W W' : World} {gr gs gh : Nat} {A : Option Addr} {c : Nat} {l : List Int} {at_ code at2 code2 : Int} {cs : Array Value}
theorem impl_rv.PK.drewN (h : impl_rv.PK w W gr gs gh A c l at_ code cs) (n : Nat) : impl_rv.PK w (W.drewN n) gr gs gh A c l at_ code cs :=
  ⟨pw_below_drewN h.b n, blk_drewN h.r n, blk_drewN h.s n, blk_drewN h.h n, h.gr_, h.gs_, h.gh_, h.rs, h.rh, h.sh⟩
theorem impl_rv.PK.drew (h : impl_rv.PK w W gr gs gh A c l at_ code cs) : impl_rv.PK w W.drew gr gs gh A c l at_ code cs :=
  ⟨h.b.drew, blk_drew h.r, blk_drew h.s, blk_drew h.h, h.gr_, h.gs_, h.gh_, h.rs, h.rh, h.sh⟩
theorem impl_rv.PK.below (h : impl_rv.PK w W gr gs gh A c l at_ code cs) (hb : Below W.heap.size W W') : impl_rv.PK w W' gr gs gh A c l at_ code cs :=
  ⟨below_step h.b hb, blk_below h.r hb, blk_below (o := .cells #[.slice A l.length c, .int .i64 at_, .int .i64 code] 52 (0, 0)) h.s hb, blk_below h.h hb, h.gr_, h.gs_, h.gh_, h.rs, h.rh, h.sh⟩
theorem impl_rv.PK.call (h : impl_rv.PK w W gr gs gh A c l at_ code cs) (hk : impl_rv.Kp W W' gs) (hs : impl_rv.At W' gs A c l at2 code2) : impl_rv.PK w W' gr gs gh A c l at2 code2 cs :=
  ⟨h.b.trans (hk.below h.gs_), hk.blk h.r h.rs, hs, hk.blk h.h h.sh.symm, h.gr_, h.gs_, h.gh_, h.rs, h.rh, h.sh⟩
theorem impl_rv.PK.put (h : impl_rv.PK w W gr gs gh A c l at_ code cs) (j : Nat) (u : Value) {cs' : Array Value} (e : cs.setIfInBounds j u = cs') : impl_rv.PK w (W.setCell ⟨gh, j, none⟩ u) gr gs gh A c l at_ code cs' :=
  ⟨below_set h.b h.gh_, blk_far h.r h.rh _, blk_far h.s h.sh _, blk_put h.h j u e, h.gr_, h.gs_, h.gh_, h.rs, h.rh, h.sh⟩
end
theorem impl_rv.PK.putS {w W : World} {gr gs gh : Nat} {A : Option Addr} {c : Nat} {l : List Int} {at_ code : Int} {cs : Array Value} (h : impl_rv.PK w W gr gs gh A c l at_ code cs) (x : Int) : impl_rv.PK w (W.setCell ⟨gs, 1, none⟩ (.int .i64 x)) gr gs gh A c l x code cs :=
  ⟨below_set h.b h.gs_, blk_far h.r h.rs _, blk_put (cs := #[.slice A l.length c, .int .i64 at_, .int .i64 code]) h.s 1 _ rfl, blk_far h.h h.sh.symm _, h.gr_, h.gs_, h.gh_, h.rs, h.rh, h.sh⟩
theorem impl_rv.results_cttt {fn : Func} {p u v x : Tmp} {ty : TypeId} (h : fn.results = #[.cell p ty, .tmp u, .tmp v, .tmp x]) (tmps : Array Value) (P : Program) (w : World) (g : Nat) (t : TypeId) (cs : Array Value) (fr : Nat × Nat) (d : TypeDesc)
    (hp : tmps.getD p undef = .pointer (some ⟨g, 0, none⟩)) (hg : w.heap[g]? = some (.cells cs t fr))
    (hu : P.underlying ty = some d) (hd : (match (generalizing := false) d with | .struct _ | .array _ _ => true | _ => false) = true) (hi : (P.info? ty).map (·.size) = some cs.size) :
    (results fn tmps).run P w = .ok (.tuple #[.agg cs, tmps.getD u undef, tmps.getD v undef, tmps.getD x undef]) w := by
  have hp' : tmps[p]?.getD undef = .pointer (some ⟨g, 0, none⟩) := by simpa using hp
  simp [results, h, hp', asAddr, run_loadVar_row w g t ty cs fr d hg hu (by cases d <;> first | rfl | exact absurd hd (by simp)) hi]
theorem impl_rv.drop_C {A : Option Addr} {c : Nat} {l : List Int} {m : Nat} {w : World} (hr : Kd.C (Kd.int .u8) w A l.length l) (hm : m ≤ l.length) (hc : l.length ≤ c) : Kd.C (Kd.int .u8) w (if c = m then A else A.map (·.add m)) (l.drop m).length (l.drop m) := by
  have h1 := Kd.C_drop hr hm hc
  have e2 : m * (Kd.int .u8).sz = m := Nat.mul_one _
  rw [e2] at h1
  exact h1
theorem impl_rv.quo_in (b : Int) : wrap64 ((wrap64 (b - 192)).tdiv 16) = (wrap64 (b - 192)).tdiv 16 := by
  refine IntWalk.wrap64_in _ ?_
  have h : -9223372036854775808 ≤ wrap64 (b - 192) ∧ wrap64 (b - 192) ≤ 9223372036854775807 := by unfold wrap64; omega
  generalize wrap64 (b - 192) = y at h ⊢
  rcases Int.le_total 0 y with h0 | h0
  · rw [Int.tdiv_eq_ediv_of_nonneg h0]; omega
  · have h1 := Int.neg_tdiv y 16
    rw [Int.tdiv_eq_ediv_of_nonneg (by omega : 0 ≤ -y)] at h1
    omega
theorem impl_rv.dropv1 (A : Option Addr) (c L p : Nat) (h : c = p) : Value.slice A (L - c) 0 = Value.slice (if c = p then A else Option.map (fun x => x.add p) A) (L - p) (c - p) := by
  subst h
  rw [if_pos rfl, Nat.sub_self]
theorem impl_rv.dropv2 (A : Option Addr) (c L p : Nat) (h : ¬ c = p) : Value.slice (Option.map (fun x => x.add p) A) (L - p) (c - p) = Value.slice (if c = p then A else Option.map (fun x => x.add p) A) (L - p) (c - p) := by
  rw [if_neg h]
set_option maxHeartbeats 8000000 in
set_option maxRecDepth 100000 in
theorem impl_rv.peek_calls (k : Nat) (A0 : Option Addr) (c0 : Nat) (l0 : List Int) (r1 : Int) (r2 r3 : Nat) (r4 : Int) (w : World) (hi : impl_rv.In w A0 c0 l0) (h : impl_rv.peek k l0 = some (r1, r2, r3, r4)) :
    Calls Try.prog 19 #[.slice A0 l0.length c0, .int .i64 0] w fun e w' => (∃ (ver : Int) (Ad : Option Addr) (cd : Nat) (As : Option Addr) (cs : Nat) (vA : Option Addr) (vn vc : Nat) (n num : Int), e = .returned (.tuple #[.agg #[.int .i64 r1, .int .i64 ver, .slice Ad r2 cd, .slice As r3 cs, .slice vA vn vc, .int .i64 0, .int .i64 0, .int .i64 0], .int .i64 n, .int .i64 num, .int .i64 r4])) ∧ Below w.heap.size w w' := by
  have huR := Try.underlying33
  have HI := Aside0.mk hi
  clear hi
  have HB := Aside0.mk (Below.refl w.heap.size w)
  unfold impl_rv.peek at h
  obtain ⟨⟨o, p, d⟩, h1, h⟩ := Option.bind_eq_some_iff.1 h
  dsimp only at h
  obtain ⟨b, hb⟩ : ∃ b : Int, b = impl_rv.hd o := ⟨_, rfl⟩
  rw [← hb] at h
  have H1 := Aside0.mk h1
  have HBB := Aside0.mk hb
  have H := Aside0.mk h
  clear h h1 hb
  go_enter Try.func19, Try.ntmps19
  go_upto_block 0 with (first | ((with_reducible refine gate_dst (N := 4) rfl ?_); refine box_event ?hg (N := 4) ?hd (cs := #[.int .i64 0, .int .i64 0, .slice none 0 0, .slice none 0 0, .slice none 0 0, .int .i64 0, .int .i64 0, .int .i64 0]) (t := 33) ?hr ?_; (case hd => rfl); (case hg => rfl); (case hr => first | (go_simp; done) | (go_simp; rfl)); intro gr hg w3 hbox hb; have GE_BR := Aside0.mk (show w.heap.size ≤ gr from by rw [hg]; exact below_size (by repeat (first | (with_reducible first | exact HB.out | apply below_alloc | apply pw_below_drewN | apply below_drew1) | exact HB.out))); have m0_ := Aside0.mk (show Below w.heap.size w w3 from below_step (by repeat (first | (with_reducible first | exact HB.out | apply below_alloc | apply pw_below_drewN | apply below_drew1) | exact HB.out)) hb); have m1_ := Aside0.mk (show w3.heap[gr]? = some (.cells #[.int .i64 0, .int .i64 0, .slice none 0 0, .slice none 0 0, .slice none 0 0, .int .i64 0, .int .i64 0, .int .i64 0] 33 (0, 0)) from hbox); clear HB; have HB := m0_; have BR := m1_; clear m0_ m1_; clear hb hbox hg; have z1 : w3.cell? ⟨gr, 0, none⟩ = some (.int .i64 0) := (blk_cell BR.out 0).trans rfl; have zf2 := blk_frozen BR.out 0; have z3 : w3.cell? ⟨gr, 1, none⟩ = some (.int .i64 0) := (blk_cell BR.out 1).trans rfl; have zf4 := blk_frozen BR.out 1; have z5 : w3.cell? ⟨gr, 2, none⟩ = some (.slice none 0 0) := (blk_cell BR.out 2).trans rfl; have zf6 := blk_frozen BR.out 2; have z7 : w3.cell? ⟨gr, 3, none⟩ = some (.slice none 0 0) := (blk_cell BR.out 3).trans rfl; have zf8 := blk_frozen BR.out 3; have z9 : w3.cell? ⟨gr, 4, none⟩ = some (.slice none 0 0) := (blk_cell BR.out 4).trans rfl; have zf10 := blk_frozen BR.out 4; have z11 : w3.cell? ⟨gr, 5, none⟩ = some (.int .i64 0) := (blk_cell BR.out 5).trans rfl; have zf12 := blk_frozen BR.out 5; have z13 : w3.cell? ⟨gr, 6, none⟩ = some (.int .i64 0) := (blk_cell BR.out 6).trans rfl; have zf14 := blk_frozen BR.out 6; have z15 : w3.cell? ⟨gr, 7, none⟩ = some (.int .i64 0) := (blk_cell BR.out 7).trans rfl; have zf16 := blk_frozen BR.out 7) | ((with_reducible refine gate_dst (N := 21) rfl ?_); refine box_event ?hg (N := 21) ?hd (cs := #[.slice A0 l0.length c0, .int .i64 0, .int .i64 0]) (t := 52) ?hr ?_; (case hd => rfl); (case hg => rfl); (case hr => first | (go_simp; done) | (go_simp; rfl)); intro gs hg w5 hbox hb; have GE_BS := Aside0.mk (show w.heap.size ≤ gs from by rw [hg]; exact below_size (by repeat (first | (with_reducible first | exact HB.out | apply below_alloc | apply pw_below_drewN | apply below_drew1 | refine below_set ?_ GE_BR.out) | exact HB.out))); have NE_BR_BS := Aside0.mk (show gr ≠ gs from by rw [hg]; exact Nat.ne_of_lt (blk_lt (show (_ : World).heap[gr]? = some (.cells #[.int .i64 0, .int .i64 0, .slice none 0 0, .slice none 0 0, .slice none 0 0, .int .i64 0, .int .i64 0, .int .i64 0] 33 (0, 0)) from (by (with_reducible repeat (first | refine blk_drewN ?_ _ | refine blk_drew ?_ | refine blk_alloc ?_ _)); exact BR.out)))); have NE_BS_BR := Aside0.mk (NE_BR_BS.out.symm); have m0_ := Aside0.mk (show Below w.heap.size w w5 from below_step (by repeat (first | (with_reducible first | exact HB.out | apply below_alloc | apply pw_below_drewN | apply below_drew1 | refine below_set ?_ GE_BR.out) | exact HB.out)) hb); have m1_ := Aside0.mk (show w5.heap[gr]? = some (.cells #[.int .i64 0, .int .i64 0, .slice none 0 0, .slice none 0 0, .slice none 0 0, .int .i64 0, .int .i64 0, .int .i64 0] 33 (0, 0)) from blk_below (g := gr) (o := .cells #[.int .i64 0, .int .i64 0, .slice none 0 0, .slice none 0 0, .slice none 0 0, .int .i64 0, .int .i64 0, .int .i64 0] 33 (0, 0)) (by (with_reducible repeat (first | refine blk_drewN ?_ _ | refine blk_drew ?_ | refine blk_alloc ?_ _)); exact BR.out) hb); have m2_ := Aside0.mk (show w5.heap[gs]? = some (.cells #[.slice A0 l0.length c0, .int .i64 0, .int .i64 0] 52 (0, 0)) from hbox); clear HB; clear BR; have HB := m0_; have BR := m1_; have BS := m2_; clear m0_ m1_ m2_; clear hb hbox hg; have z17 : w5.cell? ⟨gr, 0, none⟩ = some (.int .i64 0) := (blk_cell BR.out 0).trans rfl; have zf18 := blk_frozen BR.out 0; have z19 : w5.cell? ⟨gr, 1, none⟩ = some (.int .i64 0) := (blk_cell BR.out 1).trans rfl; have zf20 := blk_frozen BR.out 1; have z21 : w5.cell? ⟨gr, 2, none⟩ = some (.slice none 0 0) := (blk_cell BR.out 2).trans rfl; have zf22 := blk_frozen BR.out 2; have z23 : w5.cell? ⟨gr, 3, none⟩ = some (.slice none 0 0) := (blk_cell BR.out 3).trans rfl; have zf24 := blk_frozen BR.out 3; have z25 : w5.cell? ⟨gr, 4, none⟩ = some (.slice none 0 0) := (blk_cell BR.out 4).trans rfl; have zf26 := blk_frozen BR.out 4; have z27 : w5.cell? ⟨gr, 5, none⟩ = some (.int .i64 0) := (blk_cell BR.out 5).trans rfl; have zf28 := blk_frozen BR.out 5; have z29 : w5.cell? ⟨gr, 6, none⟩ = some (.int .i64 0) := (blk_cell BR.out 6).trans rfl; have zf30 := blk_frozen BR.out 6; have z31 : w5.cell? ⟨gr, 7, none⟩ = some (.int .i64 0) := (blk_cell BR.out 7).trans rfl; have zf32 := blk_frozen BR.out 7; have z33 : w5.cell? ⟨gs, 0, none⟩ = some (.slice A0 l0.length c0) := (blk_cell BS.out 0).trans rfl; have zf34 := blk_frozen BS.out 0; have z35 : w5.cell? ⟨gs, 1, none⟩ = some (.int .i64 0) := (blk_cell BS.out 1).trans rfl; have zf36 := blk_frozen BS.out 1; have z37 : w5.cell? ⟨gs, 2, none⟩ = some (.int .i64 0) := (blk_cell BS.out 2).trans rfl; have zf38 := blk_frozen BS.out 2) | (go_at_call 26; refine (impl_rv.octet_calls gs A0 c0 l0 0 0 p d o w _ (by repeat (first | (with_reducible first | exact HB.out | apply below_alloc | apply pw_below_drewN | apply below_drew1 | refine below_set ?_ GE_BR.out | refine below_set ?_ GE_BS.out) | exact HB.out)) GE_BS.out (show (_ : World).heap[gs]? = some (.cells #[.slice A0 l0.length c0, .int .i64 0, .int .i64 0] 52 (0, 0)) from (by (with_reducible repeat (first | refine blk_drewN ?_ _ | refine blk_drew ?_ | refine blk_alloc ?_ _)); exact BS.out)) HI.out H1.out).mono ?_; rintro e w7 ⟨rfl, hg_, hk_⟩; rw [← HBB.out]; have m0_ := Aside0.mk (show Below w.heap.size w w7 from (show Below w.heap.size w _ from by repeat (first | (with_reducible first | exact HB.out | apply below_alloc | apply pw_below_drewN | apply below_drew1 | refine below_set ?_ GE_BR.out | refine below_set ?_ GE_BS.out) | exact HB.out)).trans (hk_.below GE_BS.out)); have m1_ := Aside0.mk (show w7.heap[gr]? = some (.cells #[.int .i64 0, .int .i64 0, .slice none 0 0, .slice none 0 0, .slice none 0 0, .int .i64 0, .int .i64 0, .int .i64 0] 33 (0, 0)) from hk_.blk (by (with_reducible repeat (first | refine blk_drewN ?_ _ | refine blk_drew ?_ | refine blk_alloc ?_ _)); exact BR.out) NE_BR_BS.out); have m2_ := Aside0.mk (show w7.heap[gs]? = some (.cells #[.slice A0 l0.length c0, .int .i64 p, .int .i64 d] 52 (0, 0)) from hg_); clear HB; clear BR; clear BS; have HB := m0_; have BR := m1_; have BS := m2_; clear m0_ m1_ m2_; clear hg_ hk_; have z39 : w7.cell? ⟨gr, 0, none⟩ = some (.int .i64 0) := (blk_cell BR.out 0).trans rfl; have zf40 := blk_frozen BR.out 0; have z41 : w7.cell? ⟨gr, 1, none⟩ = some (.int .i64 0) := (blk_cell BR.out 1).trans rfl; have zf42 := blk_frozen BR.out 1; have z43 : w7.cell? ⟨gr, 2, none⟩ = some (.slice none 0 0) := (blk_cell BR.out 2).trans rfl; have zf44 := blk_frozen BR.out 2; have z45 : w7.cell? ⟨gr, 3, none⟩ = some (.slice none 0 0) := (blk_cell BR.out 3).trans rfl; have zf46 := blk_frozen BR.out 3; have z47 : w7.cell? ⟨gr, 4, none⟩ = some (.slice none 0 0) := (blk_cell BR.out 4).trans rfl; have zf48 := blk_frozen BR.out 4; have z49 : w7.cell? ⟨gr, 5, none⟩ = some (.int .i64 0) := (blk_cell BR.out 5).trans rfl; have zf50 := blk_frozen BR.out 5; have z51 : w7.cell? ⟨gr, 6, none⟩ = some (.int .i64 0) := (blk_cell BR.out 6).trans rfl; have zf52 := blk_frozen BR.out 6; have z53 : w7.cell? ⟨gr, 7, none⟩ = some (.int .i64 0) := (blk_cell BR.out 7).trans rfl; have zf54 := blk_frozen BR.out 7; have z55 : w7.cell? ⟨gs, 0, none⟩ = some (.slice A0 l0.length c0) := (blk_cell BS.out 0).trans rfl; have zf56 := blk_frozen BS.out 0; have z57 : w7.cell? ⟨gs, 1, none⟩ = some (.int .i64 p) := (blk_cell BS.out 1).trans rfl; have zf58 := blk_frozen BS.out 1; have z59 : w7.cell? ⟨gs, 2, none⟩ = some (.int .i64 d) := (blk_cell BS.out 2).trans rfl; have zf60 := blk_frozen BS.out 2) | ((with_reducible refine gate_dst (N := 10) rfl ?_); refine box_event ?hg (N := 10) ?hd (cs := #[.int .i64 0, .int .i64 0, .slice none 0 0, .slice none 0 0, .slice none 0 0, .int .i64 0, .int .i64 0, .int .i64 0]) (t := 33) ?hr ?_; (case hd => rfl); (case hg => rfl); (case hr => first | (go_simp; done) | (go_simp; rfl)); intro gh hg w8 hbox hb; have GE_BF := Aside0.mk (show w.heap.size ≤ gh from by rw [hg]; exact below_size (by repeat (first | (with_reducible first | exact HB.out | apply below_alloc | apply pw_below_drewN | apply below_drew1 | refine below_set ?_ GE_BR.out | refine below_set ?_ GE_BS.out) | exact HB.out))); have NE_BR_BF := Aside0.mk (show gr ≠ gh from by rw [hg]; exact Nat.ne_of_lt (blk_lt (show (_ : World).heap[gr]? = some (.cells #[.int .i64 0, .int .i64 0, .slice none 0 0, .slice none 0 0, .slice none 0 0, .int .i64 0, .int .i64 0, .int .i64 0] 33 (0, 0)) from (by (with_reducible repeat (first | refine blk_drewN ?_ _ | refine blk_drew ?_ | refine blk_alloc ?_ _)); exact BR.out)))); have NE_BF_BR := Aside0.mk (NE_BR_BF.out.symm); have NE_BS_BF := Aside0.mk (show gs ≠ gh from by rw [hg]; exact Nat.ne_of_lt (blk_lt (show (_ : World).heap[gs]? = some (.cells #[.slice A0 l0.length c0, .int .i64 p, .int .i64 d] 52 (0, 0)) from (by (with_reducible repeat (first | refine blk_drewN ?_ _ | refine blk_drew ?_ | refine blk_alloc ?_ _)); exact BS.out)))); have NE_BF_BS := Aside0.mk (NE_BS_BF.out.symm); have m0_ := Aside0.mk (show Below w.heap.size w w8 from below_step (by repeat (first | (with_reducible first | exact HB.out | apply below_alloc | apply pw_below_drewN | apply below_drew1 | refine below_set ?_ GE_BR.out | refine below_set ?_ GE_BS.out) | exact HB.out)) hb); have m1_ := Aside0.mk (show w8.heap[gr]? = some (.cells #[.int .i64 0, .int .i64 0, .slice none 0 0, .slice none 0 0, .slice none 0 0, .int .i64 0, .int .i64 0, .int .i64 0] 33 (0, 0)) from blk_below (g := gr) (o := .cells #[.int .i64 0, .int .i64 0, .slice none 0 0, .slice none 0 0, .slice none 0 0, .int .i64 0, .int .i64 0, .int .i64 0] 33 (0, 0)) (by (with_reducible repeat (first | refine blk_drewN ?_ _ | refine blk_drew ?_ | refine blk_alloc ?_ _)); exact BR.out) hb); have m2_ := Aside0.mk (show w8.heap[gs]? = some (.cells #[.slice A0 l0.length c0, .int .i64 p, .int .i64 d] 52 (0, 0)) from blk_below (g := gs) (o := .cells #[.slice A0 l0.length c0, .int .i64 p, .int .i64 d] 52 (0, 0)) (by (with_reducible repeat (first | refine blk_drewN ?_ _ | refine blk_drew ?_ | refine blk_alloc ?_ _)); exact BS.out) hb); have m3_ := Aside0.mk (show w8.heap[gh]? = some (.cells #[.int .i64 0, .int .i64 0, .slice none 0 0, .slice none 0 0, .slice none 0 0, .int .i64 0, .int .i64 0, .int .i64 0] 33 (0, 0)) from hbox); clear HB; clear BR; clear BS; have HB := m0_; have BR := m1_; have BS := m2_; have BF := m3_; clear m0_ m1_ m2_ m3_; clear hb hbox hg; have z61 : w8.cell? ⟨gr, 0, none⟩ = some (.int .i64 0) := (blk_cell BR.out 0).trans rfl; have zf62 := blk_frozen BR.out 0; have z63 : w8.cell? ⟨gr, 1, none⟩ = some (.int .i64 0) := (blk_cell BR.out 1).trans rfl; have zf64 := blk_frozen BR.out 1; have z65 : w8.cell? ⟨gr, 2, none⟩ = some (.slice none 0 0) := (blk_cell BR.out 2).trans rfl; have zf66 := blk_frozen BR.out 2; have z67 : w8.cell? ⟨gr, 3, none⟩ = some (.slice none 0 0) := (blk_cell BR.out 3).trans rfl; have zf68 := blk_frozen BR.out 3; have z69 : w8.cell? ⟨gr, 4, none⟩ = some (.slice none 0 0) := (blk_cell BR.out 4).trans rfl; have zf70 := blk_frozen BR.out 4; have z71 : w8.cell? ⟨gr, 5, none⟩ = some (.int .i64 0) := (blk_cell BR.out 5).trans rfl; have zf72 := blk_frozen BR.out 5; have z73 : w8.cell? ⟨gr, 6, none⟩ = some (.int .i64 0) := (blk_cell BR.out 6).trans rfl; have zf74 := blk_frozen BR.out 6; have z75 : w8.cell? ⟨gr, 7, none⟩ = some (.int .i64 0) := (blk_cell BR.out 7).trans rfl; have zf76 := blk_frozen BR.out 7; have z77 : w8.cell? ⟨gs, 0, none⟩ = some (.slice A0 l0.length c0) := (blk_cell BS.out 0).trans rfl; have zf78 := blk_frozen BS.out 0; have z79 : w8.cell? ⟨gs, 1, none⟩ = some (.int .i64 p) := (blk_cell BS.out 1).trans rfl; have zf80 := blk_frozen BS.out 1; have z81 : w8.cell? ⟨gs, 2, none⟩ = some (.int .i64 d) := (blk_cell BS.out 2).trans rfl; have zf82 := blk_frozen BS.out 2; have z83 : w8.cell? ⟨gh, 0, none⟩ = some (.int .i64 0) := (blk_cell BF.out 0).trans rfl; have zf84 := blk_frozen BF.out 0; have z85 : w8.cell? ⟨gh, 1, none⟩ = some (.int .i64 0) := (blk_cell BF.out 1).trans rfl; have zf86 := blk_frozen BF.out 1; have z87 : w8.cell? ⟨gh, 2, none⟩ = some (.slice none 0 0) := (blk_cell BF.out 2).trans rfl; have zf88 := blk_frozen BF.out 2; have z89 : w8.cell? ⟨gh, 3, none⟩ = some (.slice none 0 0) := (blk_cell BF.out 3).trans rfl; have zf90 := blk_frozen BF.out 3; have z91 : w8.cell? ⟨gh, 4, none⟩ = some (.slice none 0 0) := (blk_cell BF.out 4).trans rfl; have zf92 := blk_frozen BF.out 4; have z93 : w8.cell? ⟨gh, 5, none⟩ = some (.int .i64 0) := (blk_cell BF.out 5).trans rfl; have zf94 := blk_frozen BF.out 5; have z95 : w8.cell? ⟨gh, 6, none⟩ = some (.int .i64 0) := (blk_cell BF.out 6).trans rfl; have zf96 := blk_frozen BF.out 6; have z97 : w8.cell? ⟨gh, 7, none⟩ = some (.int .i64 0) := (blk_cell BF.out 7).trans rfl; have zf98 := blk_frozen BF.out 7))
  refine impl_rv.cwp_seal (fun W_ => impl_rv.PK w W_ gr gs gh A0 c0 l0 p d #[.int .i64 0, .int .i64 0, .slice none 0 0, .slice none 0 0, .slice none 0 0, .int .i64 0, .int .i64 0, .int .i64 0]) ⟨(by repeat (first | (with_reducible first | exact HB.out | apply below_alloc | apply pw_below_drewN | apply below_drew1 | refine below_set ?_ GE_BR.out | refine below_set ?_ GE_BS.out | refine below_set ?_ GE_BF.out) | exact HB.out)), (by (with_reducible repeat (first | refine blk_drewN ?_ _ | refine blk_drew ?_ | refine blk_alloc ?_ _ | refine blk_far ?_ NE_BR_BF.out _)); exact BR.out), (show (_ : World).heap[gs]? = some (.cells #[.slice A0 l0.length c0, .int .i64 p, .int .i64 d] 52 (0, 0)) from by (with_reducible repeat (first | refine blk_drewN ?_ _ | refine blk_drew ?_ | refine blk_alloc ?_ _ | refine blk_far ?_ NE_BS_BF.out _)); exact BS.out), (by (with_reducible repeat (first | refine blk_drewN ?_ _ | refine blk_drew ?_ | refine blk_alloc ?_ _)); refine blk_put (cs := #[.int .i64 0, .int .i64 0, .slice none 0 0, .slice none 0 0, .slice none 0 0, .int .i64 0, .int .i64 0, .int .i64 0]) ?_ 7 _ rfl; (with_reducible repeat (first | refine blk_drewN ?_ _ | refine blk_drew ?_ | refine blk_alloc ?_ _)); refine blk_put (cs := #[.int .i64 0, .int .i64 0, .slice none 0 0, .slice none 0 0, .slice none 0 0, .int .i64 0, .int .i64 0, .int .i64 0]) ?_ 6 _ rfl; (with_reducible repeat (first | refine blk_drewN ?_ _ | refine blk_drew ?_ | refine blk_alloc ?_ _)); refine blk_put (cs := #[.int .i64 0, .int .i64 0, .slice none 0 0, .slice none 0 0, .slice none 0 0, .int .i64 0, .int .i64 0, .int .i64 0]) ?_ 5 _ rfl; (with_reducible repeat (first | refine blk_drewN ?_ _ | refine blk_drew ?_ | refine blk_alloc ?_ _)); refine blk_put (cs := #[.int .i64 0, .int .i64 0, .slice none 0 0, .slice none 0 0, .slice none 0 0, .int .i64 0, .int .i64 0, .int .i64 0]) ?_ 4 _ rfl; (with_reducible repeat (first | refine blk_drewN ?_ _ | refine blk_drew ?_ | refine blk_alloc ?_ _)); refine blk_put (cs := #[.int .i64 0, .int .i64 0, .slice none 0 0, .slice none 0 0, .slice none 0 0, .int .i64 0, .int .i64 0, .int .i64 0]) ?_ 3 _ rfl; (with_reducible repeat (first | refine blk_drewN ?_ _ | refine blk_drew ?_ | refine blk_alloc ?_ _)); refine blk_put (cs := #[.int .i64 0, .int .i64 0, .slice none 0 0, .slice none 0 0, .slice none 0 0, .int .i64 0, .int .i64 0, .int .i64 0]) ?_ 2 _ rfl; (with_reducible repeat (first | refine blk_drewN ?_ _ | refine blk_drew ?_ | refine blk_alloc ?_ _)); refine blk_put (cs := #[.int .i64 0, .int .i64 0, .slice none 0 0, .slice none 0 0, .slice none 0 0, .int .i64 0, .int .i64 0, .int .i64 0]) ?_ 1 _ rfl; (with_reducible repeat (first | refine blk_drewN ?_ _ | refine blk_drew ?_ | refine blk_alloc ?_ _)); refine blk_put (cs := #[.int .i64 0, .int .i64 0, .slice none 0 0, .slice none 0 0, .slice none 0 0, .int .i64 0, .int .i64 0, .int .i64 0]) ?_ 0 _ rfl; (with_reducible repeat (first | refine blk_drewN ?_ _ | refine blk_drew ?_ | refine blk_alloc ?_ _)); exact BF.out), GE_BR.out, GE_BS.out, GE_BF.out, NE_BR_BS.out, NE_BR_BF.out, NE_BS_BF.out⟩ ?_
  rintro w9 hs_
  have HS := Aside0.mk hs_
  clear hs_ HB BR BS BF GE_BR GE_BS GE_BF NE_BR_BS NE_BR_BF NE_BS_BF NE_BS_BR NE_BF_BR NE_BF_BS
  clear z1 zf2 z3 zf4 z5 zf6 z7 zf8 z9 zf10 z11 zf12 z13 zf14 z15 zf16 z17 zf18 z19 zf20 z21 zf22 z23 zf24 z25 zf26 z27 zf28 z29 zf30 z31 zf32 z33 zf34 z35 zf36 z37 zf38 z39 zf40 z41 zf42 z43 zf44 z45 zf46 z47 zf48 z49 zf50 z51 zf52 z53 zf54 z55 zf56 z57 zf58 z59 zf60 z61 zf62 z63 zf64 z65 zf66 z67 zf68 z69 zf70 z71 zf72 z73 zf74 z75 zf76 z77 zf78 z79 zf80 z81 zf82 z83 zf84 z85 zf86 z87 zf88 z89 zf90 z91 zf92 z93 zf94 z95 zf96 z97 zf98
  have h := H.out
  clear H
  obtain ⟨y1, f2, y3, f4, y5, f6⟩ := impl_rv.c3 HS.out.s
  obtain ⟨y7, f8, y9, f10, y11, f12, y13, f14, y15, f16, y17, f18, y19, f20, y21, f22⟩ := impl_rv.c8 HS.out.h
  obtain ⟨y23, f24, y25, f26, y27, f28, y29, f30, y31, f32, y33, f34, y35, f36, y37, f38⟩ := impl_rv.c8 HS.out.r
  have ne0 : gs ≠ gr := HS.out.rs.symm
  have ne1 : gr ≠ gs := HS.out.rs
  have ne2 : gh ≠ gr := HS.out.rh.symm
  have ne3 : gr ≠ gh := HS.out.rh
  by_cases cS : d = 0 ∧ 64 ≤ b ∧ b < 128
  · rw [if_pos cS] at h
    obtain ⟨rfl, c1, c2⟩ := cS
    have q1 : decide (b < 64) = false := decide_eq_false (by omega)
    have q2 : decide (b < 128) = true := decide_eq_true c2
    clear c1 c2
    obtain ⟨⟨v, p2, d2⟩, h_, h⟩ := Option.bind_eq_some_iff.1 h
    have H2 := Aside0.mk h_
    clear h_
    dsimp only at h
    obtain ⟨⟨m, p3, d3⟩, h_, h⟩ := Option.bind_eq_some_iff.1 h
    have H3 := Aside0.mk h_
    clear h_
    dsimp only at h
    simp only [Option.some.injEq, Prod.mk.injEq] at h
    obtain ⟨rfl, rfl, rfl, rfl⟩ := h
    have HV := Aside0.mk (show v.length ≤ 65536 from Nat.le_trans (impl_rv.take_le _ _ _ _ _ _ _ H2.out) HI.out.n)
    go_upto_region 9 with (fail)
    refine impl_rv.cwp_seal (fun W_ => impl_rv.PK w W_ gr gs gh A0 c0 l0 p 0 #[.int .i64 4, .int .i64 0, .slice none 0 0, .slice none 0 0, .slice none 0 0, .int .i64 0, .int .i64 0, .int .i64 0]) (by (with_reducible repeat (first | exact HS.out | apply impl_rv.PK.drewN | apply impl_rv.PK.drew)); refine impl_rv.PK.put (cs := #[.int .i64 0, .int .i64 0, .slice none 0 0, .slice none 0 0, .slice none 0 0, .int .i64 0, .int .i64 0, .int .i64 0]) ?_ 0 _ rfl; first | done | ((with_reducible repeat (first | exact HS.out | apply impl_rv.PK.drewN | apply impl_rv.PK.drew)); done) | exact HS.out) ?_
    clear HS y1 f2 y3 f4 y5 f6 y7 f8 y9 f10 y11 f12 y13 f14 y15 f16 y17 f18 y19 f20 y21 f22 y23 f24 y25 f26 y27 f28 y29 f30 y31 f32 y33 f34 y35 f36 y37 f38
    rintro w10 hs_
    have HS := Aside0.mk hs_
    clear hs_
    obtain ⟨y39, f40, y41, f42, y43, f44⟩ := impl_rv.c3 HS.out.s
    obtain ⟨y45, f46, y47, f48, y49, f50, y51, f52, y53, f54, y55, f56, y57, f58, y59, f60⟩ := impl_rv.c8 HS.out.h
    obtain ⟨y61, f62, y63, f64, y65, f66, y67, f68, y69, f70, y71, f72, y73, f74, y75, f76⟩ := impl_rv.c8 HS.out.r
    go_upto_region 10 with (first | (go_at_call 29; refine (impl_rv.tk_calls gs A0 c0 l0 p 0 0 p2 d2 v v.length w _ (show impl_rv.PK w _ gr gs gh A0 c0 l0 p 0 #[.int .i64 4, .int .i64 0, .slice none 0 0, .slice none 0 0, .slice none 0 0, .int .i64 0, .int .i64 0, .int .i64 0] from (by first | done | ((with_reducible repeat (first | exact HS.out | apply impl_rv.PK.drewN | apply impl_rv.PK.drew)); done) | exact HS.out)).b HS.out.gs_ (show impl_rv.At _ gs A0 c0 l0 p 0 from (show impl_rv.PK w _ gr gs gh A0 c0 l0 p 0 #[.int .i64 4, .int .i64 0, .slice none 0 0, .slice none 0 0, .slice none 0 0, .int .i64 0, .int .i64 0, .int .i64 0] from (by first | done | ((with_reducible repeat (first | exact HS.out | apply impl_rv.PK.drewN | apply impl_rv.PK.drew)); done) | exact HS.out)).s) HI.out H2.out rfl).mono ?_; rintro e w11 ⟨A5, c5, rfl, hc_, hcl_, hg_, hk_⟩; have HC5 := Aside0.mk hc_; have HL5 := Aside0.mk hcl_; clear hc_ hcl_; have hs_ := Aside0.mk (show impl_rv.PK w w11 gr gs gh A0 c0 l0 p2 d2 #[.int .i64 4, .int .i64 0, .slice none 0 0, .slice none 0 0, .slice none 0 0, .int .i64 0, .int .i64 0, .int .i64 0] from impl_rv.PK.call (by first | done | ((with_reducible repeat (first | exact HS.out | apply impl_rv.PK.drewN | apply impl_rv.PK.drew)); done) | exact HS.out) hk_ hg_); clear HS; have HS := hs_; clear hs_ hg_ hk_; clear y39 f40 y41 f42 y43 f44 y45 f46 y47 f48 y49 f50 y51 f52 y53 f54 y55 f56 y57 f58 y59 f60 y61 f62 y63 f64 y65 f66 y67 f68 y69 f70 y71 f72 y73 f74 y75 f76; obtain ⟨y77, f78, y79, f80, y81, f82⟩ := impl_rv.c3 HS.out.s; obtain ⟨y83, f84, y85, f86, y87, f88, y89, f90, y91, f92, y93, f94, y95, f96, y97, f98⟩ := impl_rv.c8 HS.out.h; obtain ⟨y99, f100, y101, f102, y103, f104, y105, f106, y107, f108, y109, f110, y111, f112, y113, f114⟩ := impl_rv.c8 HS.out.r) | (go_at_call 28; refine (impl_copied.calls A5 c5 v v _ (by with_reducible repeat (first | exact HC5.out | refine Kd.C_alloc ?_ _ | refine Kd.C_drewN ?_ _ | refine Kd.C_drew ?_)) HL5.out (impl_rv.copied_is v HV.out)).mono ?_; rintro e w12 ⟨vp_, rfl, ho_, hb_⟩; obtain ⟨Ad, cd, rfl⟩ := Kd.R_slice ho_; have hs_ := Aside0.mk (show impl_rv.PK w w12 gr gs gh A0 c0 l0 p2 d2 #[.int .i64 4, .int .i64 0, .slice none 0 0, .slice none 0 0, .slice none 0 0, .int .i64 0, .int .i64 0, .int .i64 0] from impl_rv.PK.below (by first | done | ((with_reducible repeat (first | exact HS.out | apply impl_rv.PK.drewN | apply impl_rv.PK.drew)); done) | exact HS.out) hb_); clear HS; have HS := hs_; clear hs_ ho_ hb_; clear y77 f78 y79 f80 y81 f82 y83 f84 y85 f86 y87 f88 y89 f90 y91 f92 y93 f94 y95 f96 y97 f98 y99 f100 y101 f102 y103 f104 y105 f106 y107 f108 y109 f110 y111 f112 y113 f114; obtain ⟨y115, f116, y117, f118, y119, f120⟩ := impl_rv.c3 HS.out.s; obtain ⟨y121, f122, y123, f124, y125, f126, y127, f128, y129, f130, y131, f132, y133, f134, y135, f136⟩ := impl_rv.c8 HS.out.h; obtain ⟨y137, f138, y139, f140, y141, f142, y143, f144, y145, f146, y147, f148, y149, f150, y151, f152⟩ := impl_rv.c8 HS.out.r))
    refine impl_rv.cwp_seal (fun W_ => impl_rv.PK w W_ gr gs gh A0 c0 l0 p2 d2 #[.int .i64 4, .int .i64 0, .slice Ad v.length cd, .slice none 0 0, .slice none 0 0, .int .i64 0, .int .i64 0, .int .i64 0]) (by (with_reducible repeat (first | exact HS.out | apply impl_rv.PK.drewN | apply impl_rv.PK.drew)); refine impl_rv.PK.put (cs := #[.int .i64 4, .int .i64 0, .slice none 0 0, .slice none 0 0, .slice none 0 0, .int .i64 0, .int .i64 0, .int .i64 0]) ?_ 2 _ rfl; first | done | ((with_reducible repeat (first | exact HS.out | apply impl_rv.PK.drewN | apply impl_rv.PK.drew)); done) | exact HS.out) ?_
    clear HS y115 f116 y117 f118 y119 f120 y121 f122 y123 f124 y125 f126 y127 f128 y129 f130 y131 f132 y133 f134 y135 f136 y137 f138 y139 f140 y141 f142 y143 f144 y145 f146 y147 f148 y149 f150 y151 f152
    rintro w13 hs_
    have HS := Aside0.mk hs_
    clear hs_
    obtain ⟨y153, f154, y155, f156, y157, f158⟩ := impl_rv.c3 HS.out.s
    obtain ⟨y159, f160, y161, f162, y163, f164, y165, f166, y167, f168, y169, f170, y171, f172, y173, f174⟩ := impl_rv.c8 HS.out.h
    obtain ⟨y175, f176, y177, f178, y179, f180, y181, f182, y183, f184, y185, f186, y187, f188, y189, f190⟩ := impl_rv.c8 HS.out.r
    go_upto_region 12 with (first | (go_at_call 29; refine (impl_rv.tk_calls gs A0 c0 l0 p2 d2 12 p3 d3 m m.length w _ (show impl_rv.PK w _ gr gs gh A0 c0 l0 p2 d2 #[.int .i64 4, .int .i64 0, .slice Ad v.length cd, .slice none 0 0, .slice none 0 0, .int .i64 0, .int .i64 0, .int .i64 0] from (by first | done | ((with_reducible repeat (first | exact HS.out | apply impl_rv.PK.drewN | apply impl_rv.PK.drew)); done) | exact HS.out)).b HS.out.gs_ (show impl_rv.At _ gs A0 c0 l0 p2 d2 from (show impl_rv.PK w _ gr gs gh A0 c0 l0 p2 d2 #[.int .i64 4, .int .i64 0, .slice Ad v.length cd, .slice none 0 0, .slice none 0 0, .int .i64 0, .int .i64 0, .int .i64 0] from (by first | done | ((with_reducible repeat (first | exact HS.out | apply impl_rv.PK.drewN | apply impl_rv.PK.drew)); done) | exact HS.out)).s) HI.out H3.out rfl).mono ?_; rintro e w14 ⟨A5, c5, rfl, hc_, hcl_, hg_, hk_⟩; have HC5 := Aside0.mk hc_; have HL5 := Aside0.mk hcl_; clear hc_ hcl_; have hs_ := Aside0.mk (show impl_rv.PK w w14 gr gs gh A0 c0 l0 p3 d3 #[.int .i64 4, .int .i64 0, .slice Ad v.length cd, .slice none 0 0, .slice none 0 0, .int .i64 0, .int .i64 0, .int .i64 0] from impl_rv.PK.call (by first | done | ((with_reducible repeat (first | exact HS.out | apply impl_rv.PK.drewN | apply impl_rv.PK.drew)); done) | exact HS.out) hk_ hg_); clear HS; have HS := hs_; clear hs_ hg_ hk_; clear y153 f154 y155 f156 y157 f158 y159 f160 y161 f162 y163 f164 y165 f166 y167 f168 y169 f170 y171 f172 y173 f174 y175 f176 y177 f178 y179 f180 y181 f182 y183 f184 y185 f186 y187 f188 y189 f190; obtain ⟨y191, f192, y193, f194, y195, f196⟩ := impl_rv.c3 HS.out.s; obtain ⟨y197, f198, y199, f200, y201, f202, y203, f204, y205, f206, y207, f208, y209, f210, y211, f212⟩ := impl_rv.c8 HS.out.h; obtain ⟨y213, f214, y215, f216, y217, f218, y219, f220, y221, f222, y223, f224, y225, f226, y227, f228⟩ := impl_rv.c8 HS.out.r))
    refine impl_rv.cwp_seal (fun W_ => impl_rv.PK w W_ gr gs gh A0 c0 l0 p3 d3 #[.int .i64 4, .int .i64 0, .slice Ad v.length cd, .slice none 0 0, .slice none 0 0, .int .i64 0, .int .i64 0, .int .i64 0]) (by first | done | ((with_reducible repeat (first | exact HS.out | apply impl_rv.PK.drewN | apply impl_rv.PK.drew)); done) | exact HS.out) ?_
    clear HS y191 f192 y193 f194 y195 f196 y197 f198 y199 f200 y201 f202 y203 f204 y205 f206 y207 f208 y209 f210 y211 f212 y213 f214 y215 f216 y217 f218 y219 f220 y221 f222 y223 f224 y225 f226 y227 f228
    rintro w15 hs_
    have HS := Aside0.mk hs_
    clear hs_
    obtain ⟨y229, f230, y231, f232, y233, f234⟩ := impl_rv.c3 HS.out.s
    obtain ⟨y235, f236, y237, f238, y239, f240, y241, f242, y243, f244, y245, f246, y247, f248, y249, f250⟩ := impl_rv.c8 HS.out.h
    obtain ⟨y251, f252, y253, f254, y255, f256, y257, f258, y259, f260, y261, f262, y263, f264, y265, f266⟩ := impl_rv.c8 HS.out.r
    go_upto_region 13 with (fail)
    refine impl_rv.cwp_seal (fun W_ => impl_rv.PK w W_ gr gs gh A0 c0 l0 (l0.length : Int) d3 #[.int .i64 4, .int .i64 0, .slice Ad v.length cd, .slice none 0 0, .slice none 0 0, .int .i64 0, .int .i64 0, .int .i64 0]) (by (with_reducible repeat (first | exact HS.out | apply impl_rv.PK.drewN | apply impl_rv.PK.drew)); refine impl_rv.PK.putS (at_ := p3) ?_ _; first | done | ((with_reducible repeat (first | exact HS.out | apply impl_rv.PK.drewN | apply impl_rv.PK.drew)); done) | exact HS.out) ?_
    clear HS y229 f230 y231 f232 y233 f234 y235 f236 y237 f238 y239 f240 y241 f242 y243 f244 y245 f246 y247 f248 y249 f250 y251 f252 y253 f254 y255 f256 y257 f258 y259 f260 y261 f262 y263 f264 y265 f266
    rintro w16 hs_
    have HS := Aside0.mk hs_
    clear hs_
    obtain ⟨y267, f268, y269, f270, y271, f272⟩ := impl_rv.c3 HS.out.s
    obtain ⟨y273, f274, y275, f276, y277, f278, y279, f280, y281, f282, y283, f284, y285, f286, y287, f288⟩ := impl_rv.c8 HS.out.h
    obtain ⟨y289, f290, y291, f292, y293, f294, y295, f296, y297, f298, y299, f300, y301, f302, y303, f304⟩ := impl_rv.c8 HS.out.r
    go_region
    all_goals go_wp2
    all_goals (refine bodyPost_ret (impl_rv.results_cttt rfl _ _ _ gr 33 #[.int .i64 4, .int .i64 0, .slice Ad v.length cd, .slice none 0 0, .slice none 0 0, .int .i64 0, .int .i64 0, .int .i64 0] (0, 0) _ rfl (by (with_reducible repeat (first | refine blk_drewN ?_ _ | refine blk_drew ?_ | refine blk_alloc ?_ _)); refine blk_put (cs := #[.int .i64 4, .int .i64 0, .slice Ad v.length cd, .slice none 0 0, .slice none 0 0, .int .i64 0, .int .i64 0, .int .i64 0]) ?_ 7 _ rfl; refine blk_put (cs := #[.int .i64 4, .int .i64 0, .slice Ad v.length cd, .slice none 0 0, .slice none 0 0, .int .i64 0, .int .i64 0, .int .i64 0]) ?_ 6 _ rfl; refine blk_put (cs := #[.int .i64 4, .int .i64 0, .slice Ad v.length cd, .slice none 0 0, .slice none 0 0, .int .i64 0, .int .i64 0, .int .i64 0]) ?_ 5 _ rfl; refine blk_put (cs := #[.int .i64 4, .int .i64 0, .slice Ad v.length cd, .slice none 0 0, .slice none 0 0, .int .i64 0, .int .i64 0, .int .i64 0]) ?_ 4 _ rfl; refine blk_put (cs := #[.int .i64 4, .int .i64 0, .slice Ad v.length cd, .slice none 0 0, .slice none 0 0, .int .i64 0, .int .i64 0, .int .i64 0]) ?_ 3 _ rfl; refine blk_put (cs := #[.int .i64 4, .int .i64 0, .slice none 0 0, .slice none 0 0, .slice none 0 0, .int .i64 0, .int .i64 0, .int .i64 0]) ?_ 2 _ rfl; refine blk_put (cs := #[.int .i64 4, .int .i64 0, .slice none 0 0, .slice none 0 0, .slice none 0 0, .int .i64 0, .int .i64 0, .int .i64 0]) ?_ 1 _ rfl; refine blk_put (cs := #[.int .i64 0, .int .i64 0, .slice none 0 0, .slice none 0 0, .slice none 0 0, .int .i64 0, .int .i64 0, .int .i64 0]) ?_ 0 _ rfl; (with_reducible repeat (first | refine blk_drewN ?_ _ | refine blk_drew ?_ | refine blk_alloc ?_ _)); exact HS.out.r) Try.underlying33 rfl (by kernel_rfl)) rfl ?_)
    all_goals (exact ⟨⟨0, Ad, cd, none, 0, none, 0, 0, _, _, rfl⟩, (by (with_reducible repeat (first | exact HS.out.b | refine below_set ?_ HS.out.gr_ | apply below_alloc | apply pw_below_drewN | apply below_drew1)); first | done | exact HS.out.b)⟩)
  · rw [if_neg cS] at h
    obtain ⟨dA, hdA⟩ : ∃ dA : Int, dA = (if b < 64 ∧ d = 0 then 3 else d) := ⟨_, rfl⟩
    rw [← hdA] at h
    have H := Aside0.mk h
    clear h
    have HDA := Aside0.mk hdA
    clear hdA
    go_cut [9] from 19 (fun v9 wc => v9 = .int .i64 b ∧ Aside0 (impl_rv.PK w wc gr gs gh A0 c0 l0 p dA #[.int .i64 0, .int .i64 0, .slice none 0 0, .slice none 0 0, .slice none 0 0, .int .i64 0, .int .i64 0, .int .i64 0]))
    case first =>
      by_cases c1 : d = 0
      · have q0 : (d != 0) = false := by rw [c1]; rfl
        by_cases c2 : b < 64
        · have q1 : decide (b < 64) = true := decide_eq_true c2
          have DA := Aside0.mk (show (if d = 0 then 3 else d) = dA by rw [HDA.out]; simp [c1, c2])
          clear cS c1 c2
          go_wp2_with (first | (go_at_call 27; refine (impl_rv.fail_calls gs A0 c0 l0 p d 3 _ (show impl_rv.At _ gs A0 c0 l0 p d from (show impl_rv.PK w _ gr gs gh A0 c0 l0 p d #[.int .i64 0, .int .i64 0, .slice none 0 0, .slice none 0 0, .slice none 0 0, .int .i64 0, .int .i64 0, .int .i64 0] from (by first | done | ((with_reducible repeat (first | exact HS.out | apply impl_rv.PK.drewN | apply impl_rv.PK.drew)); done) | exact HS.out)).s)).mono ?_; rintro e w10 ⟨rfl, hg_, hk_⟩; rw [DA.out] at hg_; have hs_ := Aside0.mk (show impl_rv.PK w w10 gr gs gh A0 c0 l0 p dA #[.int .i64 0, .int .i64 0, .slice none 0 0, .slice none 0 0, .slice none 0 0, .int .i64 0, .int .i64 0, .int .i64 0] from impl_rv.PK.call (by first | done | ((with_reducible repeat (first | exact HS.out | apply impl_rv.PK.drewN | apply impl_rv.PK.drew)); done) | exact HS.out) hk_ hg_); clear HS; have HS := hs_; clear hs_ hg_ hk_; clear y1 f2 y3 f4 y5 f6 y7 f8 y9 f10 y11 f12 y13 f14 y15 f16 y17 f18 y19 f20 y21 f22 y23 f24 y25 f26 y27 f28 y29 f30 y31 f32 y33 f34 y35 f36 y37 f38; obtain ⟨y39, f40, y41, f42, y43, f44⟩ := impl_rv.c3 HS.out.s; obtain ⟨y45, f46, y47, f48, y49, f50, y51, f52, y53, f54, y55, f56, y57, f58, y59, f60⟩ := impl_rv.c8 HS.out.h; obtain ⟨y61, f62, y63, f64, y65, f66, y67, f68, y69, f70, y71, f72, y73, f74, y75, f76⟩ := impl_rv.c8 HS.out.r))
          go_meet
          case rel => exact ⟨rfl, ⟨(by first | done | ((with_reducible repeat (first | exact HS.out | apply impl_rv.PK.drewN | apply impl_rv.PK.drew)); done) | exact HS.out)⟩⟩
        · have q1 : decide (b < 64) = false := decide_eq_false c2
          have q2 : decide (b < 128) = false := decide_eq_false (fun h_ => cS ⟨c1, by omega, h_⟩)
          have DA := Aside0.mk (show dA = d by rw [HDA.out]; simp [c2])
          clear cS c1 c2
          go_wp2
          go_meet
          case rel => exact ⟨rfl, ⟨by rw [DA.out]; exact (by first | done | ((with_reducible repeat (first | exact HS.out | apply impl_rv.PK.drewN | apply impl_rv.PK.drew)); done) | exact HS.out)⟩⟩
      · have q0 : (d != 0) = true := bne_iff_ne.2 c1
        have DA := Aside0.mk (show dA = d by rw [HDA.out]; simp [c1])
        clear cS c1
        go_wp2
        go_meet
        case rel => exact ⟨rfl, ⟨by rw [DA.out]; exact (by first | done | ((with_reducible repeat (first | exact HS.out | apply impl_rv.PK.drewN | apply impl_rv.PK.drew)); done) | exact HS.out)⟩⟩
    case rest =>
      clear HS y1 f2 y3 f4 y5 f6 y7 f8 y9 f10 y11 f12 y13 f14 y15 f16 y17 f18 y19 f20 y21 f22 y23 f24 y25 f26 y27 f28 y29 f30 y31 f32 y33 f34 y35 f36 y37 f38
      obtain ⟨rfl, HS⟩ := hcut
      obtain ⟨y39, f40, y41, f42, y43, f44⟩ := impl_rv.c3 HS.out.s
      obtain ⟨y45, f46, y47, f48, y49, f50, y51, f52, y53, f54, y55, f56, y57, f58, y59, f60⟩ := impl_rv.c8 HS.out.h
      obtain ⟨y61, f62, y63, f64, y65, f66, y67, f68, y69, f70, y71, f72, y73, f74, y75, f76⟩ := impl_rv.c8 HS.out.r
      clear cS HDA
      refine impl_rv.next_ (by assumption) ?_
      have h := H.out
      clear H
      unfold impl_rv.rest1 at h
      obtain ⟨⟨v, p2, d2⟩, h_, h⟩ := Option.bind_eq_some_iff.1 h
      have H2 := Aside0.mk h_
      clear h_
      dsimp only at h
      obtain ⟨ver, h_, h⟩ := Option.bind_eq_some_iff.1 h
      have HU := Aside0.mk h_
      clear h_
      obtain ⟨⟨dd, p3, d3⟩, h_, h⟩ := Option.bind_eq_some_iff.1 h
      have H3 := Aside0.mk h_
      clear h_
      dsimp only at h
      obtain ⟨⟨ss, p4, d4⟩, h_, h⟩ := Option.bind_eq_some_iff.1 h
      have H4 := Aside0.mk h_
      clear h_
      dsimp only at h
      have H := Aside0.mk h
      clear h
      go_upto_region 15 with (first | (go_at_call 29; refine (impl_rv.tk_calls gs A0 c0 l0 p dA 4 p2 d2 v v.length w _ (show impl_rv.PK w _ gr gs gh A0 c0 l0 p dA #[.int .i64 0, .int .i64 0, .slice none 0 0, .slice none 0 0, .slice none 0 0, .int .i64 0, .int .i64 0, .int .i64 0] from (by first | done | ((with_reducible repeat (first | exact HS.out | apply impl_rv.PK.drewN | apply impl_rv.PK.drew)); done) | exact HS.out)).b HS.out.gs_ (show impl_rv.At _ gs A0 c0 l0 p dA from (show impl_rv.PK w _ gr gs gh A0 c0 l0 p dA #[.int .i64 0, .int .i64 0, .slice none 0 0, .slice none 0 0, .slice none 0 0, .int .i64 0, .int .i64 0, .int .i64 0] from (by first | done | ((with_reducible repeat (first | exact HS.out | apply impl_rv.PK.drewN | apply impl_rv.PK.drew)); done) | exact HS.out)).s) HI.out H2.out rfl).mono ?_; rintro e w11 ⟨A5, c5, rfl, hc_, hcl_, hg_, hk_⟩; have HC5 := Aside0.mk hc_; have HL5 := Aside0.mk hcl_; clear hc_ hcl_; have hs_ := Aside0.mk (show impl_rv.PK w w11 gr gs gh A0 c0 l0 p2 d2 #[.int .i64 0, .int .i64 0, .slice none 0 0, .slice none 0 0, .slice none 0 0, .int .i64 0, .int .i64 0, .int .i64 0] from impl_rv.PK.call (by first | done | ((with_reducible repeat (first | exact HS.out | apply impl_rv.PK.drewN | apply impl_rv.PK.drew)); done) | exact HS.out) hk_ hg_); clear HS; have HS := hs_; clear hs_ hg_ hk_; clear y39 f40 y41 f42 y43 f44 y45 f46 y47 f48 y49 f50 y51 f52 y53 f54 y55 f56 y57 f58 y59 f60 y61 f62 y63 f64 y65 f66 y67 f68 y69 f70 y71 f72 y73 f74 y75 f76; obtain ⟨y77, f78, y79, f80, y81, f82⟩ := impl_rv.c3 HS.out.s; obtain ⟨y83, f84, y85, f86, y87, f88, y89, f90, y91, f92, y93, f94, y95, f96, y97, f98⟩ := impl_rv.c8 HS.out.h; obtain ⟨y99, f100, y101, f102, y103, f104, y105, f106, y107, f108, y109, f110, y111, f112, y113, f114⟩ := impl_rv.c8 HS.out.r) | (go_at_call 20; refine (impl_unfixed.calls k A5 c5 v ver _ (by with_reducible repeat (first | exact HC5.out | refine Kd.C_alloc ?_ _ | refine Kd.C_drewN ?_ _ | refine Kd.C_drew ?_)) HL5.out HU.out).mono ?_; rintro e w12 ⟨rfl, hd_⟩; obtain ⟨m_, hm_⟩ := hd_; subst hm_))
      refine impl_rv.cwp_seal (fun W_ => impl_rv.PK w W_ gr gs gh A0 c0 l0 p2 d2 #[.int .i64 0, .int .i64 0, .slice none 0 0, .slice none 0 0, .slice none 0 0, .int .i64 0, .int .i64 0, .int .i64 0]) (by first | done | ((with_reducible repeat (first | exact HS.out | apply impl_rv.PK.drewN | apply impl_rv.PK.drew)); done) | exact HS.out) ?_
      clear HS y77 f78 y79 f80 y81 f82 y83 f84 y85 f86 y87 f88 y89 f90 y91 f92 y93 f94 y95 f96 y97 f98 y99 f100 y101 f102 y103 f104 y105 f106 y107 f108 y109 f110 y111 f112 y113 f114
      rintro w13 hs_
      have HS := Aside0.mk hs_
      clear hs_
      obtain ⟨y115, f116, y117, f118, y119, f120⟩ := impl_rv.c3 HS.out.s
      obtain ⟨y121, f122, y123, f124, y125, f126, y127, f128, y129, f130, y131, f132, y133, f134, y135, f136⟩ := impl_rv.c8 HS.out.h
      obtain ⟨y137, f138, y139, f140, y141, f142, y143, f144, y145, f146, y147, f148, y149, f150, y151, f152⟩ := impl_rv.c8 HS.out.r
      clear HC5 HL5
      go_upto_region 16 with (first | (go_at_call 30; refine (impl_rv.cid_calls gs A0 c0 l0 p2 d2 p3 d3 dd w _ (show impl_rv.PK w _ gr gs gh A0 c0 l0 p2 d2 #[.int .i64 0, .int .i64 0, .slice none 0 0, .slice none 0 0, .slice none 0 0, .int .i64 0, .int .i64 0, .int .i64 0] from (by first | done | ((with_reducible repeat (first | exact HS.out | apply impl_rv.PK.drewN | apply impl_rv.PK.drew)); done) | exact HS.out)).b HS.out.gs_ (show impl_rv.At _ gs A0 c0 l0 p2 d2 from (show impl_rv.PK w _ gr gs gh A0 c0 l0 p2 d2 #[.int .i64 0, .int .i64 0, .slice none 0 0, .slice none 0 0, .slice none 0 0, .int .i64 0, .int .i64 0, .int .i64 0] from (by first | done | ((with_reducible repeat (first | exact HS.out | apply impl_rv.PK.drewN | apply impl_rv.PK.drew)); done) | exact HS.out)).s) HI.out H3.out).mono ?_; rintro e w14 ⟨⟨Ad, cd, rfl⟩, hg_, hk_⟩; have hs_ := Aside0.mk (show impl_rv.PK w w14 gr gs gh A0 c0 l0 p3 d3 #[.int .i64 0, .int .i64 0, .slice none 0 0, .slice none 0 0, .slice none 0 0, .int .i64 0, .int .i64 0, .int .i64 0] from impl_rv.PK.call (by first | done | ((with_reducible repeat (first | exact HS.out | apply impl_rv.PK.drewN | apply impl_rv.PK.drew)); done) | exact HS.out) hk_ hg_); clear HS; have HS := hs_; clear hs_ hg_ hk_; clear y115 f116 y117 f118 y119 f120 y121 f122 y123 f124 y125 f126 y127 f128 y129 f130 y131 f132 y133 f134 y135 f136 y137 f138 y139 f140 y141 f142 y143 f144 y145 f146 y147 f148 y149 f150 y151 f152; obtain ⟨y153, f154, y155, f156, y157, f158⟩ := impl_rv.c3 HS.out.s; obtain ⟨y159, f160, y161, f162, y163, f164, y165, f166, y167, f168, y169, f170, y171, f172, y173, f174⟩ := impl_rv.c8 HS.out.h; obtain ⟨y175, f176, y177, f178, y179, f180, y181, f182, y183, f184, y185, f186, y187, f188, y189, f190⟩ := impl_rv.c8 HS.out.r))
      refine impl_rv.cwp_seal (fun W_ => impl_rv.PK w W_ gr gs gh A0 c0 l0 p3 d3 #[.int .i64 0, .int .i64 0, .slice Ad dd.length cd, .slice none 0 0, .slice none 0 0, .int .i64 0, .int .i64 0, .int .i64 0]) (by (with_reducible repeat (first | exact HS.out | apply impl_rv.PK.drewN | apply impl_rv.PK.drew)); refine impl_rv.PK.put (cs := #[.int .i64 0, .int .i64 0, .slice none 0 0, .slice none 0 0, .slice none 0 0, .int .i64 0, .int .i64 0, .int .i64 0]) ?_ 2 _ rfl; first | done | ((with_reducible repeat (first | exact HS.out | apply impl_rv.PK.drewN | apply impl_rv.PK.drew)); done) | exact HS.out) ?_
      clear HS y153 f154 y155 f156 y157 f158 y159 f160 y161 f162 y163 f164 y165 f166 y167 f168 y169 f170 y171 f172 y173 f174 y175 f176 y177 f178 y179 f180 y181 f182 y183 f184 y185 f186 y187 f188 y189 f190
      rintro w15 hs_
      have HS := Aside0.mk hs_
      clear hs_
      obtain ⟨y191, f192, y193, f194, y195, f196⟩ := impl_rv.c3 HS.out.s
      obtain ⟨y197, f198, y199, f200, y201, f202, y203, f204, y205, f206, y207, f208, y209, f210, y211, f212⟩ := impl_rv.c8 HS.out.h
      obtain ⟨y213, f214, y215, f216, y217, f218, y219, f220, y221, f222, y223, f224, y225, f226, y227, f228⟩ := impl_rv.c8 HS.out.r
      go_upto_region 17 with (first | (go_at_call 30; refine (impl_rv.cid_calls gs A0 c0 l0 p3 d3 p4 d4 ss w _ (show impl_rv.PK w _ gr gs gh A0 c0 l0 p3 d3 #[.int .i64 0, .int .i64 0, .slice Ad dd.length cd, .slice none 0 0, .slice none 0 0, .int .i64 0, .int .i64 0, .int .i64 0] from (by first | done | ((with_reducible repeat (first | exact HS.out | apply impl_rv.PK.drewN | apply impl_rv.PK.drew)); done) | exact HS.out)).b HS.out.gs_ (show impl_rv.At _ gs A0 c0 l0 p3 d3 from (show impl_rv.PK w _ gr gs gh A0 c0 l0 p3 d3 #[.int .i64 0, .int .i64 0, .slice Ad dd.length cd, .slice none 0 0, .slice none 0 0, .int .i64 0, .int .i64 0, .int .i64 0] from (by first | done | ((with_reducible repeat (first | exact HS.out | apply impl_rv.PK.drewN | apply impl_rv.PK.drew)); done) | exact HS.out)).s) HI.out H4.out).mono ?_; rintro e w16 ⟨⟨As, cs, rfl⟩, hg_, hk_⟩; have hs_ := Aside0.mk (show impl_rv.PK w w16 gr gs gh A0 c0 l0 p4 d4 #[.int .i64 0, .int .i64 0, .slice Ad dd.length cd, .slice none 0 0, .slice none 0 0, .int .i64 0, .int .i64 0, .int .i64 0] from impl_rv.PK.call (by first | done | ((with_reducible repeat (first | exact HS.out | apply impl_rv.PK.drewN | apply impl_rv.PK.drew)); done) | exact HS.out) hk_ hg_); clear HS; have HS := hs_; clear hs_ hg_ hk_; clear y191 f192 y193 f194 y195 f196 y197 f198 y199 f200 y201 f202 y203 f204 y205 f206 y207 f208 y209 f210 y211 f212 y213 f214 y215 f216 y217 f218 y219 f220 y221 f222 y223 f224 y225 f226 y227 f228; obtain ⟨y229, f230, y231, f232, y233, f234⟩ := impl_rv.c3 HS.out.s; obtain ⟨y235, f236, y237, f238, y239, f240, y241, f242, y243, f244, y245, f246, y247, f248, y249, f250⟩ := impl_rv.c8 HS.out.h; obtain ⟨y251, f252, y253, f254, y255, f256, y257, f258, y259, f260, y261, f262, y263, f264, y265, f266⟩ := impl_rv.c8 HS.out.r))
      refine impl_rv.cwp_seal (fun W_ => impl_rv.PK w W_ gr gs gh A0 c0 l0 p4 d4 #[.int .i64 0, .int .i64 0, .slice Ad dd.length cd, .slice As ss.length cs, .slice none 0 0, .int .i64 0, .int .i64 0, .int .i64 0]) (by (with_reducible repeat (first | exact HS.out | apply impl_rv.PK.drewN | apply impl_rv.PK.drew)); refine impl_rv.PK.put (cs := #[.int .i64 0, .int .i64 0, .slice Ad dd.length cd, .slice none 0 0, .slice none 0 0, .int .i64 0, .int .i64 0, .int .i64 0]) ?_ 3 _ rfl; first | done | ((with_reducible repeat (first | exact HS.out | apply impl_rv.PK.drewN | apply impl_rv.PK.drew)); done) | exact HS.out) ?_
      clear HS y229 f230 y231 f232 y233 f234 y235 f236 y237 f238 y239 f240 y241 f242 y243 f244 y245 f246 y247 f248 y249 f250 y251 f252 y253 f254 y255 f256 y257 f258 y259 f260 y261 f262 y263 f264 y265 f266
      rintro w17 hs_
      have HS := Aside0.mk hs_
      clear hs_
      obtain ⟨y267, f268, y269, f270, y271, f272⟩ := impl_rv.c3 HS.out.s
      obtain ⟨y273, f274, y275, f276, y277, f278, y279, f280, y281, f282, y283, f284, y285, f286, y287, f288⟩ := impl_rv.c8 HS.out.h
      obtain ⟨y289, f290, y291, f292, y293, f294, y295, f296, y297, f298, y299, f300, y301, f302, y303, f304⟩ := impl_rv.c8 HS.out.r
      have h := H.out
      clear H
      unfold impl_rv.rest2 at h
      by_cases c4 : d4 = 0
      · rw [if_pos c4] at h
        subst c4
        by_cases c5 : 0 ≤ p4 ∧ p4 ≤ l0.length
        · rw [if_pos c5] at h
          obtain ⟨c5a, c5b⟩ := c5
          have C5 := Aside0.mk c5b
          have C5A := Aside0.mk c5a
          obtain ⟨lr, hlr⟩ : ∃ lr : List Int, lr = l0.drop p4.toNat := ⟨_, rfl⟩
          rw [← hlr] at h
          obtain ⟨nr, hnr⟩ : ∃ nr : Int, nr = (l0.length : Int) - p4 := ⟨_, rfl⟩
          rw [← hnr] at h
          have HLR := Aside0.mk hlr
          have HNR := Aside0.mk (show (lr.length : Int) = nr ∧ 0 ≤ nr ∧ nr ≤ 65536 ∧ nr.toNat = lr.length from by rw [hlr, List.length_drop]; have := HI.out.n; omega)
          clear hlr hnr
          have H := Aside0.mk h
          clear h
          have HCC := Aside0.mk HI.out.c
          have c5c : p4 ≤ (c0 : Int) := Int.le_trans c5b (by have := HCC.out; omega)
          go_upto_region 19 with (fail)
          go_cut [13] from 19 (fun v13 wc => ∃ (Ax : Option Addr) (cx : Nat), v13 = .slice Ax lr.length cx ∧ Aside0 (Kd.C (Kd.int .u8) w Ax lr.length lr) ∧ Aside0 (lr.length ≤ cx) ∧ Aside0 (impl_rv.PK w wc gr gs gh A0 c0 l0 p4 0 #[.int .i64 0, .int .i64 0, .slice Ad dd.length cd, .slice As ss.length cs, .slice none 0 0, .int .i64 0, .int .i64 0, .int .i64 0]))
          case first =>
            go_wp2
            all_goals (try (rw [← (show c0 = p4.toNat by assumption)]))
            all_goals go_meet
            all_goals rw [HLR.out]
            all_goals refine ⟨if c0 = p4.toNat then A0 else A0.map (·.add p4.toNat), c0 - p4.toNat, ?_, ⟨impl_rv.drop_C HI.out.r (by omega) HCC.out⟩, ⟨by rw [List.length_drop]; have := HCC.out; omega⟩, ⟨(by first | done | ((with_reducible repeat (first | exact HS.out | apply impl_rv.PK.drewN | apply impl_rv.PK.drew)); done) | exact HS.out)⟩⟩
            all_goals rw [List.length_drop]
            all_goals first | exact impl_rv.dropv1 A0 c0 _ _ (by assumption) | exact impl_rv.dropv2 A0 c0 _ _ (by assumption)
          case rest =>
            clear HS HCC c5c c5a c5b y267 f268 y269 f270 y271 f272 y273 f274 y275 f276 y277 f278 y279 f280 y281 f282 y283 f284 y285 f286 y287 f288 y289 f290 y291 f292 y293 f294 y295 f296 y297 f298 y299 f300 y301 f302 y303 f304
            obtain ⟨Ax, cx, rfl, HX, HXL, HS⟩ := hcut
            obtain ⟨y305, f306, y307, f308, y309, f310⟩ := impl_rv.c3 HS.out.s
            obtain ⟨y311, f312, y313, f314, y315, f316, y317, f318, y319, f320, y321, f322, y323, f324, y325, f326⟩ := impl_rv.c8 HS.out.h
            obtain ⟨y327, f328, y329, f330, y331, f332, y333, f334, y335, f336, y337, f338, y339, f340, y341, f342⟩ := impl_rv.c8 HS.out.r
            refine impl_rv.next_ (by assumption) ?_
            have h := H.out
            clear H
            by_cases c6 : ver = 0
            · rw [if_pos c6] at h
              have q6 : (ver == 0) = true := beq_iff_eq.2 c6
              clear c6
              obtain ⟨⟨tv, ok⟩, h_, h⟩ := Option.bind_eq_some_iff.1 h
              have HVS := Aside0.mk h_
              clear h_
              dsimp only at h
              have H := Aside0.mk h
              clear h
              go_upto_region 22 with (fail)
              refine impl_rv.cwp_seal (fun W_ => impl_rv.PK w W_ gr gs gh A0 c0 l0 p4 0 #[.int .i64 5, .int .i64 0, .slice Ad dd.length cd, .slice As ss.length cs, .slice none 0 0, .int .i64 0, .int .i64 0, .int .i64 0]) (by (with_reducible repeat (first | exact HS.out | apply impl_rv.PK.drewN | apply impl_rv.PK.drew)); refine impl_rv.PK.put (cs := #[.int .i64 0, .int .i64 0, .slice Ad dd.length cd, .slice As ss.length cs, .slice none 0 0, .int .i64 0, .int .i64 0, .int .i64 0]) ?_ 0 _ rfl; first | done | ((with_reducible repeat (first | exact HS.out | apply impl_rv.PK.drewN | apply impl_rv.PK.drew)); done) | exact HS.out) ?_
              clear HS y305 f306 y307 f308 y309 f310 y311 f312 y313 f314 y315 f316 y317 f318 y319 f320 y321 f322 y323 f324 y325 f326 y327 f328 y329 f330 y331 f332 y333 f334 y335 f336 y337 f338 y339 f340 y341 f342
              rintro w18 hs_
              have HS := Aside0.mk hs_
              clear hs_
              obtain ⟨y343, f344, y345, f346, y347, f348⟩ := impl_rv.c3 HS.out.s
              obtain ⟨y349, f350, y351, f352, y353, f354, y355, f356, y357, f358, y359, f360, y361, f362, y363, f364⟩ := impl_rv.c8 HS.out.h
              obtain ⟨y365, f366, y367, f368, y369, f370, y371, f372, y373, f374, y375, f376, y377, f378, y379, f380⟩ := impl_rv.c8 HS.out.r
              go_upto_region 23 with (first | (go_at_call 15; refine (impl_versionsOf.calls k Ax cx lr tv ok _ (Kd.C_below HX.out (show impl_rv.PK w _ gr gs gh A0 c0 l0 p4 0 #[.int .i64 5, .int .i64 0, .slice Ad dd.length cd, .slice As ss.length cs, .slice none 0 0, .int .i64 0, .int .i64 0, .int .i64 0] from (by first | done | ((with_reducible repeat (first | exact HS.out | apply impl_rv.PK.drewN | apply impl_rv.PK.drew)); done) | exact HS.out)).b) HXL.out HVS.out).mono ?_; rintro e w19 ⟨vp_, rfl, ho_, hb_⟩; have hs_ := Aside0.mk (show impl_rv.PK w w19 gr gs gh A0 c0 l0 p4 0 #[.int .i64 5, .int .i64 0, .slice Ad dd.length cd, .slice As ss.length cs, .slice none 0 0, .int .i64 0, .int .i64 0, .int .i64 0] from impl_rv.PK.below (by first | done | ((with_reducible repeat (first | exact HS.out | apply impl_rv.PK.drewN | apply impl_rv.PK.drew)); done) | exact HS.out) hb_); clear HS; have HS := hs_; clear hs_ ho_ hb_; clear y343 f344 y345 f346 y347 f348 y349 f350 y351 f352 y353 f354 y355 f356 y357 f358 y359 f360 y361 f362 y363 f364 y365 f366 y367 f368 y369 f370 y371 f372 y373 f374 y375 f376 y377 f378 y379 f380; obtain ⟨y381, f382, y383, f384, y385, f386⟩ := impl_rv.c3 HS.out.s; obtain ⟨y387, f388, y389, f390, y391, f392, y393, f394, y395, f396, y397, f398, y399, f400, y401, f402⟩ := impl_rv.c8 HS.out.h; obtain ⟨y403, f404, y405, f406, y407, f408, y409, f410, y411, f412, y413, f414, y415, f416, y417, f418⟩ := impl_rv.c8 HS.out.r))
              refine impl_rv.cwp_seal (fun W_ => impl_rv.PK w W_ gr gs gh A0 c0 l0 p4 0 #[.int .i64 5, .int .i64 0, .slice Ad dd.length cd, .slice As ss.length cs, .slice none 0 0, .int .i64 0, .int .i64 0, .int .i64 0]) (by first | done | ((with_reducible repeat (first | exact HS.out | apply impl_rv.PK.drewN | apply impl_rv.PK.drew)); done) | exact HS.out) ?_
              clear HS y381 f382 y383 f384 y385 f386 y387 f388 y389 f390 y391 f392 y393 f394 y395 f396 y397 f398 y399 f400 y401 f402 y403 f404 y405 f406 y407 f408 y409 f410 y411 f412 y413 f414 y415 f416 y417 f418
              rintro w20 hs_
              have HS := Aside0.mk hs_
              clear hs_
              obtain ⟨y419, f420, y421, f422, y423, f424⟩ := impl_rv.c3 HS.out.s
              obtain ⟨y425, f426, y427, f428, y429, f430, y431, f432, y433, f434, y435, f436, y437, f438, y439, f440⟩ := impl_rv.c8 HS.out.h
              obtain ⟨y441, f442, y443, f444, y445, f446, y447, f448, y449, f450, y451, f452, y453, f454, y455, f456⟩ := impl_rv.c8 HS.out.r
              have h := H.out
              clear H
              by_cases c7 : b = 128
              · have q7 : (b != 128) = false := by rw [c7]; rfl
                cases ok
                · rw [if_neg (by simp)] at h
                  clear c7
                  simp only [Option.some.injEq, Prod.mk.injEq] at h
                  obtain ⟨rfl, rfl, rfl, rfl⟩ := h
                  go_wp2
                  try (go_region; all_goals go_wp2)
                  all_goals (refine bodyPost_ret (impl_rv.results_cttt rfl _ _ _ gr 33 #[.int .i64 5, .int .i64 0, .slice Ad dd.length cd, .slice As ss.length cs, .slice none 0 0, .int .i64 0, .int .i64 0, .int .i64 0] (0, 0) _ rfl (by (with_reducible repeat (first | refine blk_drewN ?_ _ | refine blk_drew ?_ | refine blk_alloc ?_ _)); refine blk_put (cs := #[.int .i64 5, .int .i64 0, .slice Ad dd.length cd, .slice As ss.length cs, .slice none 0 0, .int .i64 0, .int .i64 0, .int .i64 0]) ?_ 7 _ rfl; refine blk_put (cs := #[.int .i64 5, .int .i64 0, .slice Ad dd.length cd, .slice As ss.length cs, .slice none 0 0, .int .i64 0, .int .i64 0, .int .i64 0]) ?_ 6 _ rfl; refine blk_put (cs := #[.int .i64 5, .int .i64 0, .slice Ad dd.length cd, .slice As ss.length cs, .slice none 0 0, .int .i64 0, .int .i64 0, .int .i64 0]) ?_ 5 _ rfl; refine blk_put (cs := #[.int .i64 5, .int .i64 0, .slice Ad dd.length cd, .slice As ss.length cs, .slice none 0 0, .int .i64 0, .int .i64 0, .int .i64 0]) ?_ 4 _ rfl; refine blk_put (cs := #[.int .i64 5, .int .i64 0, .slice Ad dd.length cd, .slice none 0 0, .slice none 0 0, .int .i64 0, .int .i64 0, .int .i64 0]) ?_ 3 _ rfl; refine blk_put (cs := #[.int .i64 5, .int .i64 0, .slice none 0 0, .slice none 0 0, .slice none 0 0, .int .i64 0, .int .i64 0, .int .i64 0]) ?_ 2 _ rfl; refine blk_put (cs := #[.int .i64 5, .int .i64 0, .slice none 0 0, .slice none 0 0, .slice none 0 0, .int .i64 0, .int .i64 0, .int .i64 0]) ?_ 1 _ rfl; refine blk_put (cs := #[.int .i64 0, .int .i64 0, .slice none 0 0, .slice none 0 0, .slice none 0 0, .int .i64 0, .int .i64 0, .int .i64 0]) ?_ 0 _ rfl; (with_reducible repeat (first | refine blk_drewN ?_ _ | refine blk_drew ?_ | refine blk_alloc ?_ _)); exact HS.out.r) Try.underlying33 rfl (by kernel_rfl)) rfl ?_)
                  all_goals (exact ⟨⟨0, Ad, cd, As, cs, none, 0, 0, _, _, rfl⟩, (by (with_reducible repeat (first | exact HS.out.b | refine below_set ?_ HS.out.gr_ | apply below_alloc | apply pw_below_drewN | apply below_drew1)); first | done | exact HS.out.b)⟩)
                · rw [if_pos ⟨c7, rfl⟩] at h
                  clear c7
                  simp only [Option.some.injEq, Prod.mk.injEq] at h
                  obtain ⟨rfl, rfl, rfl, rfl⟩ := h
                  go_wp2
                  try (go_region; all_goals go_wp2)
                  all_goals (refine bodyPost_ret (impl_rv.results_cttt rfl _ _ _ gr 33 #[.int .i64 5, .int .i64 0, .slice Ad dd.length cd, .slice As ss.length cs, .slice none 0 0, .int .i64 0, .int .i64 0, .int .i64 0] (0, 0) _ rfl (by (with_reducible repeat (first | refine blk_drewN ?_ _ | refine blk_drew ?_ | refine blk_alloc ?_ _)); refine blk_put (cs := #[.int .i64 5, .int .i64 0, .slice Ad dd.length cd, .slice As ss.length cs, .slice none 0 0, .int .i64 0, .int .i64 0, .int .i64 0]) ?_ 7 _ rfl; refine blk_put (cs := #[.int .i64 5, .int .i64 0, .slice Ad dd.length cd, .slice As ss.length cs, .slice none 0 0, .int .i64 0, .int .i64 0, .int .i64 0]) ?_ 6 _ rfl; refine blk_put (cs := #[.int .i64 5, .int .i64 0, .slice Ad dd.length cd, .slice As ss.length cs, .slice none 0 0, .int .i64 0, .int .i64 0, .int .i64 0]) ?_ 5 _ rfl; refine blk_put (cs := #[.int .i64 5, .int .i64 0, .slice Ad dd.length cd, .slice As ss.length cs, .slice none 0 0, .int .i64 0, .int .i64 0, .int .i64 0]) ?_ 4 _ rfl; refine blk_put (cs := #[.int .i64 5, .int .i64 0, .slice Ad dd.length cd, .slice none 0 0, .slice none 0 0, .int .i64 0, .int .i64 0, .int .i64 0]) ?_ 3 _ rfl; refine blk_put (cs := #[.int .i64 5, .int .i64 0, .slice none 0 0, .slice none 0 0, .slice none 0 0, .int .i64 0, .int .i64 0, .int .i64 0]) ?_ 2 _ rfl; refine blk_put (cs := #[.int .i64 5, .int .i64 0, .slice none 0 0, .slice none 0 0, .slice none 0 0, .int .i64 0, .int .i64 0, .int .i64 0]) ?_ 1 _ rfl; refine blk_put (cs := #[.int .i64 0, .int .i64 0, .slice none 0 0, .slice none 0 0, .slice none 0 0, .int .i64 0, .int .i64 0, .int .i64 0]) ?_ 0 _ rfl; (with_reducible repeat (first | refine blk_drewN ?_ _ | refine blk_drew ?_ | refine blk_alloc ?_ _)); exact HS.out.r) Try.underlying33 rfl (by kernel_rfl)) rfl ?_)
                  all_goals (exact ⟨⟨0, Ad, cd, As, cs, none, 0, 0, _, _, rfl⟩, (by (with_reducible repeat (first | exact HS.out.b | refine below_set ?_ HS.out.gr_ | apply below_alloc | apply pw_below_drewN | apply below_drew1)); first | done | exact HS.out.b)⟩)
              · have q7 : (b != 128) = true := bne_iff_ne.2 c7
                rw [if_neg (fun h_ => c7 h_.1)] at h
                clear c7
                simp only [Option.some.injEq, Prod.mk.injEq] at h
                obtain ⟨rfl, rfl, rfl, rfl⟩ := h
                go_wp2
                try (go_region; all_goals go_wp2)
                all_goals (refine bodyPost_ret (impl_rv.results_cttt rfl _ _ _ gr 33 #[.int .i64 5, .int .i64 0, .slice Ad dd.length cd, .slice As ss.length cs, .slice none 0 0, .int .i64 0, .int .i64 0, .int .i64 0] (0, 0) _ rfl (by (with_reducible repeat (first | refine blk_drewN ?_ _ | refine blk_drew ?_ | refine blk_alloc ?_ _)); refine blk_put (cs := #[.int .i64 5, .int .i64 0, .slice Ad dd.length cd, .slice As ss.length cs, .slice none 0 0, .int .i64 0, .int .i64 0, .int .i64 0]) ?_ 7 _ rfl; refine blk_put (cs := #[.int .i64 5, .int .i64 0, .slice Ad dd.length cd, .slice As ss.length cs, .slice none 0 0, .int .i64 0, .int .i64 0, .int .i64 0]) ?_ 6 _ rfl; refine blk_put (cs := #[.int .i64 5, .int .i64 0, .slice Ad dd.length cd, .slice As ss.length cs, .slice none 0 0, .int .i64 0, .int .i64 0, .int .i64 0]) ?_ 5 _ rfl; refine blk_put (cs := #[.int .i64 5, .int .i64 0, .slice Ad dd.length cd, .slice As ss.length cs, .slice none 0 0, .int .i64 0, .int .i64 0, .int .i64 0]) ?_ 4 _ rfl; refine blk_put (cs := #[.int .i64 5, .int .i64 0, .slice Ad dd.length cd, .slice none 0 0, .slice none 0 0, .int .i64 0, .int .i64 0, .int .i64 0]) ?_ 3 _ rfl; refine blk_put (cs := #[.int .i64 5, .int .i64 0, .slice none 0 0, .slice none 0 0, .slice none 0 0, .int .i64 0, .int .i64 0, .int .i64 0]) ?_ 2 _ rfl; refine blk_put (cs := #[.int .i64 5, .int .i64 0, .slice none 0 0, .slice none 0 0, .slice none 0 0, .int .i64 0, .int .i64 0, .int .i64 0]) ?_ 1 _ rfl; refine blk_put (cs := #[.int .i64 0, .int .i64 0, .slice none 0 0, .slice none 0 0, .slice none 0 0, .int .i64 0, .int .i64 0, .int .i64 0]) ?_ 0 _ rfl; (with_reducible repeat (first | refine blk_drewN ?_ _ | refine blk_drew ?_ | refine blk_alloc ?_ _)); exact HS.out.r) Try.underlying33 rfl (by kernel_rfl)) rfl ?_)
                all_goals (exact ⟨⟨0, Ad, cd, As, cs, none, 0, 0, _, _, rfl⟩, (by (with_reducible repeat (first | exact HS.out.b | refine below_set ?_ HS.out.gr_ | apply below_alloc | apply pw_below_drewN | apply below_drew1)); first | done | exact HS.out.b)⟩)
            · rw [if_neg c6] at h
              have q6 : (ver == 0) = false := beq_eq_false_iff_ne.2 c6
              clear c6
              have H := Aside0.mk h
              clear h
              go_upto_region 27 with (fail)
              refine impl_rv.cwp_seal (fun W_ => impl_rv.PK w W_ gr gs gh A0 c0 l0 p4 0 #[.int .i64 0, .int .i64 ver, .slice Ad dd.length cd, .slice As ss.length cs, .slice none 0 0, .int .i64 0, .int .i64 0, .int .i64 0]) (by (with_reducible repeat (first | exact HS.out | apply impl_rv.PK.drewN | apply impl_rv.PK.drew)); refine impl_rv.PK.put (cs := #[.int .i64 0, .int .i64 0, .slice Ad dd.length cd, .slice As ss.length cs, .slice none 0 0, .int .i64 0, .int .i64 0, .int .i64 0]) ?_ 1 _ rfl; first | done | ((with_reducible repeat (first | exact HS.out | apply impl_rv.PK.drewN | apply impl_rv.PK.drew)); done) | exact HS.out) ?_
              clear HS y305 f306 y307 f308 y309 f310 y311 f312 y313 f314 y315 f316 y317 f318 y319 f320 y321 f322 y323 f324 y325 f326 y327 f328 y329 f330 y331 f332 y333 f334 y335 f336 y337 f338 y339 f340 y341 f342
              rintro w18 hs_
              have HS := Aside0.mk hs_
              clear hs_
              obtain ⟨y343, f344, y345, f346, y347, f348⟩ := impl_rv.c3 HS.out.s
              obtain ⟨y349, f350, y351, f352, y353, f354, y355, f356, y357, f358, y359, f360, y361, f362, y363, f364⟩ := impl_rv.c8 HS.out.h
              obtain ⟨y365, f366, y367, f368, y369, f370, y371, f372, y373, f374, y375, f376, y377, f378, y379, f380⟩ := impl_rv.c8 HS.out.r
              have h := H.out
              clear H
              by_cases c8 : b < 192
              · have q8 : decide (b < 192) = true := decide_eq_true c8
                rw [if_pos (.inl c8)] at h
                clear c8
                simp only [Option.some.injEq, Prod.mk.injEq] at h
                obtain ⟨rfl, rfl, rfl, rfl⟩ := h
                go_wp2
                try (go_region; all_goals go_wp2)
                all_goals (refine bodyPost_ret (impl_rv.results_cttt rfl _ _ _ gr 33 #[.int .i64 0, .int .i64 ver, .slice Ad dd.length cd, .slice As ss.length cs, .slice none 0 0, .int .i64 0, .int .i64 0, .int .i64 0] (0, 0) _ rfl (by (with_reducible repeat (first | refine blk_drewN ?_ _ | refine blk_drew ?_ | refine blk_alloc ?_ _)); refine blk_put (cs := #[.int .i64 0, .int .i64 ver, .slice Ad dd.length cd, .slice As ss.length cs, .slice none 0 0, .int .i64 0, .int .i64 0, .int .i64 0]) ?_ 7 _ rfl; refine blk_put (cs := #[.int .i64 0, .int .i64 ver, .slice Ad dd.length cd, .slice As ss.length cs, .slice none 0 0, .int .i64 0, .int .i64 0, .int .i64 0]) ?_ 6 _ rfl; refine blk_put (cs := #[.int .i64 0, .int .i64 ver, .slice Ad dd.length cd, .slice As ss.length cs, .slice none 0 0, .int .i64 0, .int .i64 0, .int .i64 0]) ?_ 5 _ rfl; refine blk_put (cs := #[.int .i64 0, .int .i64 ver, .slice Ad dd.length cd, .slice As ss.length cs, .slice none 0 0, .int .i64 0, .int .i64 0, .int .i64 0]) ?_ 4 _ rfl; refine blk_put (cs := #[.int .i64 0, .int .i64 ver, .slice Ad dd.length cd, .slice none 0 0, .slice none 0 0, .int .i64 0, .int .i64 0, .int .i64 0]) ?_ 3 _ rfl; refine blk_put (cs := #[.int .i64 0, .int .i64 ver, .slice none 0 0, .slice none 0 0, .slice none 0 0, .int .i64 0, .int .i64 0, .int .i64 0]) ?_ 2 _ rfl; refine blk_put (cs := #[.int .i64 0, .int .i64 0, .slice none 0 0, .slice none 0 0, .slice none 0 0, .int .i64 0, .int .i64 0, .int .i64 0]) ?_ 1 _ rfl; refine blk_put (cs := #[.int .i64 0, .int .i64 0, .slice none 0 0, .slice none 0 0, .slice none 0 0, .int .i64 0, .int .i64 0, .int .i64 0]) ?_ 0 _ rfl; (with_reducible repeat (first | refine blk_drewN ?_ _ | refine blk_drew ?_ | refine blk_alloc ?_ _)); exact HS.out.r) Try.underlying33 rfl (by kernel_rfl)) rfl ?_)
                all_goals (exact ⟨⟨ver, Ad, cd, As, cs, none, 0, 0, _, _, rfl⟩, (by (with_reducible repeat (first | exact HS.out.b | refine below_set ?_ HS.out.gr_ | apply below_alloc | apply pw_below_drewN | apply below_drew1)); first | done | exact HS.out.b)⟩)
              · have q8 : decide (b < 192) = false := decide_eq_false c8
                obtain ⟨qb, hqb⟩ : ∃ qb : Int, qb = impl_rv.quo b := ⟨_, rfl⟩
                rw [← hqb] at h
                have e8 : (wrap64 (b - 192)).tdiv 16 = qb := hqb.symm
                clear hqb
                by_cases c9 : qb = 1
                · have q9 : (qb == 1) = true := beq_iff_eq.2 c9
                  rw [if_pos (.inr c9)] at h
                  subst c9
                  clear q9 c8
                  simp only [Option.some.injEq, Prod.mk.injEq] at h
                  obtain ⟨rfl, rfl, rfl, rfl⟩ := h
                  go_wp2
                  try (go_region; all_goals go_wp2)
                  all_goals (refine bodyPost_ret (impl_rv.results_cttt rfl _ _ _ gr 33 #[.int .i64 0, .int .i64 ver, .slice Ad dd.length cd, .slice As ss.length cs, .slice none 0 0, .int .i64 0, .int .i64 0, .int .i64 0] (0, 0) _ rfl (by (with_reducible repeat (first | refine blk_drewN ?_ _ | refine blk_drew ?_ | refine blk_alloc ?_ _)); refine blk_put (cs := #[.int .i64 0, .int .i64 ver, .slice Ad dd.length cd, .slice As ss.length cs, .slice none 0 0, .int .i64 0, .int .i64 0, .int .i64 0]) ?_ 7 _ rfl; refine blk_put (cs := #[.int .i64 0, .int .i64 ver, .slice Ad dd.length cd, .slice As ss.length cs, .slice none 0 0, .int .i64 0, .int .i64 0, .int .i64 0]) ?_ 6 _ rfl; refine blk_put (cs := #[.int .i64 0, .int .i64 ver, .slice Ad dd.length cd, .slice As ss.length cs, .slice none 0 0, .int .i64 0, .int .i64 0, .int .i64 0]) ?_ 5 _ rfl; refine blk_put (cs := #[.int .i64 0, .int .i64 ver, .slice Ad dd.length cd, .slice As ss.length cs, .slice none 0 0, .int .i64 0, .int .i64 0, .int .i64 0]) ?_ 4 _ rfl; refine blk_put (cs := #[.int .i64 0, .int .i64 ver, .slice Ad dd.length cd, .slice none 0 0, .slice none 0 0, .int .i64 0, .int .i64 0, .int .i64 0]) ?_ 3 _ rfl; refine blk_put (cs := #[.int .i64 0, .int .i64 ver, .slice none 0 0, .slice none 0 0, .slice none 0 0, .int .i64 0, .int .i64 0, .int .i64 0]) ?_ 2 _ rfl; refine blk_put (cs := #[.int .i64 0, .int .i64 0, .slice none 0 0, .slice none 0 0, .slice none 0 0, .int .i64 0, .int .i64 0, .int .i64 0]) ?_ 1 _ rfl; refine blk_put (cs := #[.int .i64 0, .int .i64 0, .slice none 0 0, .slice none 0 0, .slice none 0 0, .int .i64 0, .int .i64 0, .int .i64 0]) ?_ 0 _ rfl; (with_reducible repeat (first | refine blk_drewN ?_ _ | refine blk_drew ?_ | refine blk_alloc ?_ _)); exact HS.out.r) Try.underlying33 rfl (by kernel_rfl)) rfl ?_)
                  all_goals (exact ⟨⟨ver, Ad, cd, As, cs, none, 0, 0, _, _, rfl⟩, (by (with_reducible repeat (first | exact HS.out.b | refine below_set ?_ HS.out.gr_ | apply below_alloc | apply pw_below_drewN | apply below_drew1)); first | done | exact HS.out.b)⟩)
                · have q9 : (qb == 1) = false := beq_eq_false_iff_ne.2 c9
                  have eQ : IntKind.i64.wrap qb = qb := by rw [← e8]; exact (IntWalk.i64_left _).trans (impl_rv.quo_in b)
                  rw [if_neg (fun h_ => h_.elim c8 c9)] at h
                  clear c8 c9
                  have H := Aside0.mk h
                  clear h
                  go_upto_block 1 with (fail)
                  clear e8 eQ q9 q8 q6
                  refine impl_rv.cwp_seal (fun W_ => impl_rv.PK w W_ gr gs gh A0 c0 l0 p4 0 #[.int .i64 0, .int .i64 ver, .slice Ad dd.length cd, .slice As ss.length cs, .slice none 0 0, .int .i64 0, .int .i64 0, .int .i64 0]) (by first | done | ((with_reducible repeat (first | exact HS.out | apply impl_rv.PK.drewN | apply impl_rv.PK.drew)); done) | exact HS.out) ?_
                  clear HS y343 f344 y345 f346 y347 f348 y349 f350 y351 f352 y353 f354 y355 f356 y357 f358 y359 f360 y361 f362 y363 f364 y365 f366 y367 f368 y369 f370 y371 f372 y373 f374 y375 f376 y377 f378 y379 f380
                  rintro w19 hs_
                  have HS := Aside0.mk hs_
                  clear hs_
                  obtain ⟨y381, f382, y383, f384, y385, f386⟩ := impl_rv.c3 HS.out.s
                  obtain ⟨y387, f388, y389, f390, y391, f392, y393, f394, y395, f396, y397, f398, y399, f400, y401, f402⟩ := impl_rv.c8 HS.out.h
                  obtain ⟨y403, f404, y405, f406, y407, f408, y409, f410, y411, f412, y413, f414, y415, f416, y417, f418⟩ := impl_rv.c8 HS.out.r
                  have h := H.out
                  clear H
                  by_cases cA : qb = 3
                  · have qA : (qb == 3) = true := beq_iff_eq.2 cA
                    rw [if_pos cA] at h
                    clear cA
                    have H := Aside0.mk h
                    clear h
                    have eN : (lr.length : Int) = nr := HNR.out.1
                    go_upto_region 37 with (fail)
                    refine impl_rv.cwp_seal (fun W_ => impl_rv.PK w W_ gr gs gh A0 c0 l0 p4 0 #[.int .i64 3, .int .i64 ver, .slice Ad dd.length cd, .slice As ss.length cs, .slice none 0 0, .int .i64 0, .int .i64 0, .int .i64 0]) (by (with_reducible repeat (first | exact HS.out | apply impl_rv.PK.drewN | apply impl_rv.PK.drew)); refine impl_rv.PK.put (cs := #[.int .i64 0, .int .i64 ver, .slice Ad dd.length cd, .slice As ss.length cs, .slice none 0 0, .int .i64 0, .int .i64 0, .int .i64 0]) ?_ 0 _ rfl; first | done | ((with_reducible repeat (first | exact HS.out | apply impl_rv.PK.drewN | apply impl_rv.PK.drew)); done) | exact HS.out) ?_
                    clear HS y381 f382 y383 f384 y385 f386 y387 f388 y389 f390 y391 f392 y393 f394 y395 f396 y397 f398 y399 f400 y401 f402 y403 f404 y405 f406 y407 f408 y409 f410 y411 f412 y413 f414 y415 f416 y417 f418
                    rintro w20 hs_
                    have HS := Aside0.mk hs_
                    clear hs_
                    obtain ⟨y419, f420, y421, f422, y423, f424⟩ := impl_rv.c3 HS.out.s
                    obtain ⟨y425, f426, y427, f428, y429, f430, y431, f432, y433, f434, y435, f436, y437, f438, y439, f440⟩ := impl_rv.c8 HS.out.h
                    obtain ⟨y441, f442, y443, f444, y445, f446, y447, f448, y449, f450, y451, f452, y453, f454, y455, f456⟩ := impl_rv.c8 HS.out.r
                    have h := H.out
                    clear H
                    by_cases cB : nr < 9
                    · have qB : decide (nr < 9) = true := decide_eq_true cB
                      rw [if_pos cB] at h
                      clear cB
                      simp only [Option.some.injEq, Prod.mk.injEq] at h
                      obtain ⟨rfl, rfl, rfl, rfl⟩ := h
                      go_wp2
                      try (go_region; all_goals go_wp2)
                      all_goals (refine bodyPost_ret (impl_rv.results_cttt rfl _ _ _ gr 33 #[.int .i64 3, .int .i64 ver, .slice Ad dd.length cd, .slice As ss.length cs, .slice none 0 0, .int .i64 0, .int .i64 0, .int .i64 0] (0, 0) _ rfl (by (with_reducible repeat (first | refine blk_drewN ?_ _ | refine blk_drew ?_ | refine blk_alloc ?_ _)); refine blk_put (cs := #[.int .i64 3, .int .i64 ver, .slice Ad dd.length cd, .slice As ss.length cs, .slice none 0 0, .int .i64 0, .int .i64 0, .int .i64 0]) ?_ 7 _ rfl; refine blk_put (cs := #[.int .i64 3, .int .i64 ver, .slice Ad dd.length cd, .slice As ss.length cs, .slice none 0 0, .int .i64 0, .int .i64 0, .int .i64 0]) ?_ 6 _ rfl; refine blk_put (cs := #[.int .i64 3, .int .i64 ver, .slice Ad dd.length cd, .slice As ss.length cs, .slice none 0 0, .int .i64 0, .int .i64 0, .int .i64 0]) ?_ 5 _ rfl; refine blk_put (cs := #[.int .i64 3, .int .i64 ver, .slice Ad dd.length cd, .slice As ss.length cs, .slice none 0 0, .int .i64 0, .int .i64 0, .int .i64 0]) ?_ 4 _ rfl; refine blk_put (cs := #[.int .i64 3, .int .i64 ver, .slice Ad dd.length cd, .slice none 0 0, .slice none 0 0, .int .i64 0, .int .i64 0, .int .i64 0]) ?_ 3 _ rfl; refine blk_put (cs := #[.int .i64 3, .int .i64 ver, .slice none 0 0, .slice none 0 0, .slice none 0 0, .int .i64 0, .int .i64 0, .int .i64 0]) ?_ 2 _ rfl; refine blk_put (cs := #[.int .i64 3, .int .i64 0, .slice none 0 0, .slice none 0 0, .slice none 0 0, .int .i64 0, .int .i64 0, .int .i64 0]) ?_ 1 _ rfl; refine blk_put (cs := #[.int .i64 0, .int .i64 0, .slice none 0 0, .slice none 0 0, .slice none 0 0, .int .i64 0, .int .i64 0, .int .i64 0]) ?_ 0 _ rfl; (with_reducible repeat (first | refine blk_drewN ?_ _ | refine blk_drew ?_ | refine blk_alloc ?_ _)); exact HS.out.r) Try.underlying33 rfl (by kernel_rfl)) rfl ?_)
                      all_goals (exact ⟨⟨ver, Ad, cd, As, cs, none, 0, 0, _, _, rfl⟩, (by (with_reducible repeat (first | exact HS.out.b | refine below_set ?_ HS.out.gr_ | apply below_alloc | apply pw_below_drewN | apply below_drew1)); first | done | exact HS.out.b)⟩)
                    · have qB : decide (nr < 9) = false := decide_eq_false cB
                      rw [if_neg cB] at h
                      have eW : IntKind.i64.wrap (nr - 8) = nr - 8 := IntWalk.i64_in _ (by have := HNR.out; omega)
                      by_cases cC : 64 < nr - 8
                      · have qC : decide (64 < nr - 8) = true := decide_eq_true cC
                        rw [if_pos cC] at h
                        clear cB cC
                        simp only [Option.some.injEq, Prod.mk.injEq] at h
                        obtain ⟨rfl, rfl, rfl, rfl⟩ := h
                        go_wp2
                        try (go_region; all_goals go_wp2)
                        all_goals (refine bodyPost_ret (impl_rv.results_cttt rfl _ _ _ gr 33 #[.int .i64 3, .int .i64 ver, .slice Ad dd.length cd, .slice As ss.length cs, .slice none 0 0, .int .i64 0, .int .i64 0, .int .i64 0] (0, 0) _ rfl (by (with_reducible repeat (first | refine blk_drewN ?_ _ | refine blk_drew ?_ | refine blk_alloc ?_ _)); refine blk_put (cs := #[.int .i64 3, .int .i64 ver, .slice Ad dd.length cd, .slice As ss.length cs, .slice none 0 0, .int .i64 0, .int .i64 0, .int .i64 0]) ?_ 7 _ rfl; refine blk_put (cs := #[.int .i64 3, .int .i64 ver, .slice Ad dd.length cd, .slice As ss.length cs, .slice none 0 0, .int .i64 0, .int .i64 0, .int .i64 0]) ?_ 6 _ rfl; refine blk_put (cs := #[.int .i64 3, .int .i64 ver, .slice Ad dd.length cd, .slice As ss.length cs, .slice none 0 0, .int .i64 0, .int .i64 0, .int .i64 0]) ?_ 5 _ rfl; refine blk_put (cs := #[.int .i64 3, .int .i64 ver, .slice Ad dd.length cd, .slice As ss.length cs, .slice none 0 0, .int .i64 0, .int .i64 0, .int .i64 0]) ?_ 4 _ rfl; refine blk_put (cs := #[.int .i64 3, .int .i64 ver, .slice Ad dd.length cd, .slice none 0 0, .slice none 0 0, .int .i64 0, .int .i64 0, .int .i64 0]) ?_ 3 _ rfl; refine blk_put (cs := #[.int .i64 3, .int .i64 ver, .slice none 0 0, .slice none 0 0, .slice none 0 0, .int .i64 0, .int .i64 0, .int .i64 0]) ?_ 2 _ rfl; refine blk_put (cs := #[.int .i64 3, .int .i64 0, .slice none 0 0, .slice none 0 0, .slice none 0 0, .int .i64 0, .int .i64 0, .int .i64 0]) ?_ 1 _ rfl; refine blk_put (cs := #[.int .i64 0, .int .i64 0, .slice none 0 0, .slice none 0 0, .slice none 0 0, .int .i64 0, .int .i64 0, .int .i64 0]) ?_ 0 _ rfl; (with_reducible repeat (first | refine blk_drewN ?_ _ | refine blk_drew ?_ | refine blk_alloc ?_ _)); exact HS.out.r) Try.underlying33 rfl (by kernel_rfl)) rfl ?_)
                        all_goals (exact ⟨⟨ver, Ad, cd, As, cs, none, 0, 0, _, _, rfl⟩, (by (with_reducible repeat (first | exact HS.out.b | refine below_set ?_ HS.out.gr_ | apply below_alloc | apply pw_below_drewN | apply below_drew1)); first | done | exact HS.out.b)⟩)
                      · have qC : decide (64 < nr - 8) = false := decide_eq_false cC
                        rw [if_neg cC] at h
                        simp only [Option.some.injEq, Prod.mk.injEq] at h
                        obtain ⟨rfl, rfl, rfl, rfl⟩ := h
                        have b1 : 0 ≤ nr - 8 := by omega
                        have b2 : nr - 8 ≤ (cx : Int) := by have := HNR.out; have := HXL.out; omega
                        clear cB cC
                        obtain ⟨lt, hlt⟩ : ∃ lt : List Int, lt = lr.take (nr - 8).toNat := ⟨_, rfl⟩
                        have HLT := Aside0.mk (show (nr - 8).toNat = lt.length from by rw [hlt, List.length_take]; have := HNR.out; omega)
                        have HLQ := Aside0.mk (show lt.length ≤ 65536 from by rw [hlt, List.length_take]; have := HNR.out; omega)
                        have HLC := Aside0.mk (show Kd.C (Kd.int .u8) w Ax lt.length lt from by have h_ := Kd.C_take HX.out (m := (nr - 8).toNat) (by have := HNR.out; omega); rw [← hlt] at h_; exact h_)
                        have HLX := Aside0.mk (show lt.length ≤ cx from by have := HXL.out; have := HLT.out; have := HNR.out; omega)
                        clear hlt
                        go_upto_region 42 with (first | (go_at_call 28; rw [HLT.out]; refine (impl_copied.calls Ax cx lt lt _ (Kd.C_below HLC.out (show impl_rv.PK w _ gr gs gh A0 c0 l0 p4 0 #[.int .i64 3, .int .i64 ver, .slice Ad dd.length cd, .slice As ss.length cs, .slice none 0 0, .int .i64 0, .int .i64 0, .int .i64 0] from (by first | done | ((with_reducible repeat (first | exact HS.out | apply impl_rv.PK.drewN | apply impl_rv.PK.drew)); done) | exact HS.out)).b) HLX.out (impl_rv.copied_is lt HLQ.out)).mono ?_; rintro e w21 ⟨vp_, rfl, ho_, hb_⟩; obtain ⟨At, ct, rfl⟩ := Kd.R_slice ho_; have hs_ := Aside0.mk (show impl_rv.PK w w21 gr gs gh A0 c0 l0 p4 0 #[.int .i64 3, .int .i64 ver, .slice Ad dd.length cd, .slice As ss.length cs, .slice none 0 0, .int .i64 0, .int .i64 0, .int .i64 0] from impl_rv.PK.below (by first | done | ((with_reducible repeat (first | exact HS.out | apply impl_rv.PK.drewN | apply impl_rv.PK.drew)); done) | exact HS.out) hb_); clear HS; have HS := hs_; clear hs_ ho_ hb_; clear y419 f420 y421 f422 y423 f424 y425 f426 y427 f428 y429 f430 y431 f432 y433 f434 y435 f436 y437 f438 y439 f440 y441 f442 y443 f444 y445 f446 y447 f448 y449 f450 y451 f452 y453 f454 y455 f456; obtain ⟨y457, f458, y459, f460, y461, f462⟩ := impl_rv.c3 HS.out.s; obtain ⟨y463, f464, y465, f466, y467, f468, y469, f470, y471, f472, y473, f474, y475, f476, y477, f478⟩ := impl_rv.c8 HS.out.h; obtain ⟨y479, f480, y481, f482, y483, f484, y485, f486, y487, f488, y489, f490, y491, f492, y493, f494⟩ := impl_rv.c8 HS.out.r))
                        refine impl_rv.cwp_seal (fun W_ => impl_rv.PK w W_ gr gs gh A0 c0 l0 p4 0 #[.int .i64 3, .int .i64 ver, .slice Ad dd.length cd, .slice As ss.length cs, .slice At lt.length ct, .int .i64 0, .int .i64 0, .int .i64 0]) (by (with_reducible repeat (first | exact HS.out | apply impl_rv.PK.drewN | apply impl_rv.PK.drew)); refine impl_rv.PK.put (cs := #[.int .i64 3, .int .i64 ver, .slice Ad dd.length cd, .slice As ss.length cs, .slice none 0 0, .int .i64 0, .int .i64 0, .int .i64 0]) ?_ 4 _ rfl; first | done | ((with_reducible repeat (first | exact HS.out | apply impl_rv.PK.drewN | apply impl_rv.PK.drew)); done) | exact HS.out) ?_
                        clear HS y457 f458 y459 f460 y461 f462 y463 f464 y465 f466 y467 f468 y469 f470 y471 f472 y473 f474 y475 f476 y477 f478 y479 f480 y481 f482 y483 f484 y485 f486 y487 f488 y489 f490 y491 f492 y493 f494
                        rintro w22 hs_
                        have HS := Aside0.mk hs_
                        clear hs_
                        obtain ⟨y495, f496, y497, f498, y499, f500⟩ := impl_rv.c3 HS.out.s
                        obtain ⟨y501, f502, y503, f504, y505, f506, y507, f508, y509, f510, y511, f512, y513, f514, y515, f516⟩ := impl_rv.c8 HS.out.h
                        obtain ⟨y517, f518, y519, f520, y521, f522, y523, f524, y525, f526, y527, f528, y529, f530, y531, f532⟩ := impl_rv.c8 HS.out.r
                        go_wp2
                        try (go_region; all_goals go_wp2)
                        all_goals (refine bodyPost_ret (impl_rv.results_cttt rfl _ _ _ gr 33 #[.int .i64 3, .int .i64 ver, .slice Ad dd.length cd, .slice As ss.length cs, .slice At lt.length ct, .int .i64 0, .int .i64 0, .int .i64 0] (0, 0) _ rfl (by (with_reducible repeat (first | refine blk_drewN ?_ _ | refine blk_drew ?_ | refine blk_alloc ?_ _)); refine blk_put (cs := #[.int .i64 3, .int .i64 ver, .slice Ad dd.length cd, .slice As ss.length cs, .slice At lt.length ct, .int .i64 0, .int .i64 0, .int .i64 0]) ?_ 7 _ rfl; refine blk_put (cs := #[.int .i64 3, .int .i64 ver, .slice Ad dd.length cd, .slice As ss.length cs, .slice At lt.length ct, .int .i64 0, .int .i64 0, .int .i64 0]) ?_ 6 _ rfl; refine blk_put (cs := #[.int .i64 3, .int .i64 ver, .slice Ad dd.length cd, .slice As ss.length cs, .slice At lt.length ct, .int .i64 0, .int .i64 0, .int .i64 0]) ?_ 5 _ rfl; refine blk_put (cs := #[.int .i64 3, .int .i64 ver, .slice Ad dd.length cd, .slice As ss.length cs, .slice none 0 0, .int .i64 0, .int .i64 0, .int .i64 0]) ?_ 4 _ rfl; refine blk_put (cs := #[.int .i64 3, .int .i64 ver, .slice Ad dd.length cd, .slice none 0 0, .slice none 0 0, .int .i64 0, .int .i64 0, .int .i64 0]) ?_ 3 _ rfl; refine blk_put (cs := #[.int .i64 3, .int .i64 ver, .slice none 0 0, .slice none 0 0, .slice none 0 0, .int .i64 0, .int .i64 0, .int .i64 0]) ?_ 2 _ rfl; refine blk_put (cs := #[.int .i64 3, .int .i64 0, .slice none 0 0, .slice none 0 0, .slice none 0 0, .int .i64 0, .int .i64 0, .int .i64 0]) ?_ 1 _ rfl; refine blk_put (cs := #[.int .i64 0, .int .i64 0, .slice none 0 0, .slice none 0 0, .slice none 0 0, .int .i64 0, .int .i64 0, .int .i64 0]) ?_ 0 _ rfl; (with_reducible repeat (first | refine blk_drewN ?_ _ | refine blk_drew ?_ | refine blk_alloc ?_ _)); exact HS.out.r) Try.underlying33 rfl (by kernel_rfl)) rfl ?_)
                        all_goals (exact ⟨⟨ver, Ad, cd, As, cs, At, lt.length, ct, _, _, rfl⟩, (by (with_reducible repeat (first | exact HS.out.b | refine below_set ?_ HS.out.gr_ | apply below_alloc | apply pw_below_drewN | apply below_drew1)); first | done | exact HS.out.b)⟩)
                  · have qA : (qb == 3) = false := beq_eq_false_iff_ne.2 cA
                    rw [if_neg cA] at h
                    clear cA
                    obtain ⟨⟨m1, m2⟩, hm, h⟩ := Option.bind_eq_some_iff.1 h
                    dsimp only at h
                    obtain ⟨fm, hfm⟩ : ∃ fm : Int, fm = (if qb = 2 then 2 else 1) := ⟨_, rfl⟩
                    rw [← hfm] at h
                    have H := Aside0.mk h
                    clear h
                    have HFM := Aside0.mk hfm
                    have HM := Aside0.mk hm
                    clear hm hfm
                    go_cut [16] from 19 (fun v16 wc => ∃ (vA : Option Addr) (vn vc : Nat), Aside0 (impl_rv.PK w wc gr gs gh A0 c0 l0 m1 m2 #[.int .i64 fm, .int .i64 ver, .slice Ad dd.length cd, .slice As ss.length cs, .slice vA vn vc, .int .i64 0, .int .i64 0, .int .i64 0]))
                    case first =>
                      have hm := HM.out
                      clear HM
                      unfold impl_rv.mid at hm
                      by_cases cD : qb = 2
                      · have qD : (qb == 2) = true := beq_iff_eq.2 cD
                        rw [if_pos cD] at hm
                        simp only [Option.some.injEq, Prod.mk.injEq] at hm
                        obtain ⟨rfl, rfl⟩ := hm
                        have FM := Aside0.mk (show fm = 2 by rw [HFM.out, if_pos cD])
                        clear cD
                        go_wp2
                        go_meet
                        case rel => exact ⟨none, 0, 0, ⟨by rw [FM.out]; exact (by (with_reducible repeat (first | exact HS.out | apply impl_rv.PK.drewN | apply impl_rv.PK.drew)); refine impl_rv.PK.put (cs := #[.int .i64 0, .int .i64 ver, .slice Ad dd.length cd, .slice As ss.length cs, .slice none 0 0, .int .i64 0, .int .i64 0, .int .i64 0]) ?_ 0 _ rfl; first | done | ((with_reducible repeat (first | exact HS.out | apply impl_rv.PK.drewN | apply impl_rv.PK.drew)); done) | exact HS.out)⟩⟩
                      · have qD : (qb == 2) = false := beq_eq_false_iff_ne.2 cD
                        rw [if_neg cD] at hm
                        have FM := Aside0.mk (show fm = 1 by rw [HFM.out, if_neg cD])
                        clear cD
                        obtain ⟨⟨n5, p5, d5⟩, h5, hm⟩ := Option.bind_eq_some_iff.1 hm
                        obtain ⟨⟨t6, p6, d6⟩, h6, hm⟩ := Option.bind_eq_some_iff.1 hm
                        dsimp only at h6 hm
                        simp only [Option.some.injEq, Prod.mk.injEq] at hm
                        obtain ⟨rfl, rfl⟩ := hm
                        obtain ⟨e5, he5⟩ : ∃ e5 : Int, e5 = (if 64 < n5 ∧ d5 = 0 then 3 else d5) := ⟨_, rfl⟩
                        rw [← he5] at h6
                        have H5 := Aside0.mk h5
                        have H6 := Aside0.mk h6
                        have HE5 := Aside0.mk he5
                        clear h5 h6 he5
                        have HQ6 := Aside0.mk (show t6.length ≤ 65536 from Nat.le_trans (impl_rv.take_le _ _ _ _ _ _ _ H6.out) HI.out.n)
                        go_upto_region 31 with (fail)
                        refine impl_rv.cwp_seal (fun W_ => impl_rv.PK w W_ gr gs gh A0 c0 l0 p4 0 #[.int .i64 1, .int .i64 ver, .slice Ad dd.length cd, .slice As ss.length cs, .slice none 0 0, .int .i64 0, .int .i64 0, .int .i64 0]) (by (with_reducible repeat (first | exact HS.out | apply impl_rv.PK.drewN | apply impl_rv.PK.drew)); refine impl_rv.PK.put (cs := #[.int .i64 0, .int .i64 ver, .slice Ad dd.length cd, .slice As ss.length cs, .slice none 0 0, .int .i64 0, .int .i64 0, .int .i64 0]) ?_ 0 _ rfl; first | done | ((with_reducible repeat (first | exact HS.out | apply impl_rv.PK.drewN | apply impl_rv.PK.drew)); done) | exact HS.out) ?_
                        clear HS y381 f382 y383 f384 y385 f386 y387 f388 y389 f390 y391 f392 y393 f394 y395 f396 y397 f398 y399 f400 y401 f402 y403 f404 y405 f406 y407 f408 y409 f410 y411 f412 y413 f414 y415 f416 y417 f418
                        rintro w20 hs_
                        have HS := Aside0.mk hs_
                        clear hs_
                        obtain ⟨y419, f420, y421, f422, y423, f424⟩ := impl_rv.c3 HS.out.s
                        obtain ⟨y425, f426, y427, f428, y429, f430, y431, f432, y433, f434, y435, f436, y437, f438, y439, f440⟩ := impl_rv.c8 HS.out.h
                        obtain ⟨y441, f442, y443, f444, y445, f446, y447, f448, y449, f450, y451, f452, y453, f454, y455, f456⟩ := impl_rv.c8 HS.out.r
                        go_upto_region 32 with (first | (go_at_call 31; refine (impl_rv.num_calls k gs A0 c0 l0 p4 0 n5 p5 d5 _ (show impl_rv.At _ gs A0 c0 l0 p4 0 from (show impl_rv.PK w _ gr gs gh A0 c0 l0 p4 0 #[.int .i64 1, .int .i64 ver, .slice Ad dd.length cd, .slice As ss.length cs, .slice none 0 0, .int .i64 0, .int .i64 0, .int .i64 0] from (by first | done | ((with_reducible repeat (first | exact HS.out | apply impl_rv.PK.drewN | apply impl_rv.PK.drew)); done) | exact HS.out)).s) (Kd.C_below HI.out.r (show impl_rv.PK w _ gr gs gh A0 c0 l0 p4 0 #[.int .i64 1, .int .i64 ver, .slice Ad dd.length cd, .slice As ss.length cs, .slice none 0 0, .int .i64 0, .int .i64 0, .int .i64 0] from (by first | done | ((with_reducible repeat (first | exact HS.out | apply impl_rv.PK.drewN | apply impl_rv.PK.drew)); done) | exact HS.out)).b) HI.out.c H5.out).mono ?_; rintro e w21 ⟨rfl, hg_, hk_⟩; have hs_ := Aside0.mk (show impl_rv.PK w w21 gr gs gh A0 c0 l0 p5 d5 #[.int .i64 1, .int .i64 ver, .slice Ad dd.length cd, .slice As ss.length cs, .slice none 0 0, .int .i64 0, .int .i64 0, .int .i64 0] from impl_rv.PK.call (by first | done | ((with_reducible repeat (first | exact HS.out | apply impl_rv.PK.drewN | apply impl_rv.PK.drew)); done) | exact HS.out) hk_ hg_); clear HS; have HS := hs_; clear hs_ hg_ hk_; clear y419 f420 y421 f422 y423 f424 y425 f426 y427 f428 y429 f430 y431 f432 y433 f434 y435 f436 y437 f438 y439 f440 y441 f442 y443 f444 y445 f446 y447 f448 y449 f450 y451 f452 y453 f454 y455 f456; obtain ⟨y457, f458, y459, f460, y461, f462⟩ := impl_rv.c3 HS.out.s; obtain ⟨y463, f464, y465, f466, y467, f468, y469, f470, y471, f472, y473, f474, y475, f476, y477, f478⟩ := impl_rv.c8 HS.out.h; obtain ⟨y479, f480, y481, f482, y483, f484, y485, f486, y487, f488, y489, f490, y491, f492, y493, f494⟩ := impl_rv.c8 HS.out.r))
                        refine impl_rv.cwp_seal (fun W_ => impl_rv.PK w W_ gr gs gh A0 c0 l0 p5 d5 #[.int .i64 1, .int .i64 ver, .slice Ad dd.length cd, .slice As ss.length cs, .slice none 0 0, .int .i64 0, .int .i64 0, .int .i64 0]) (by first | done | ((with_reducible repeat (first | exact HS.out | apply impl_rv.PK.drewN | apply impl_rv.PK.drew)); done) | exact HS.out) ?_
                        clear HS y457 f458 y459 f460 y461 f462 y463 f464 y465 f466 y467 f468 y469 f470 y471 f472 y473 f474 y475 f476 y477 f478 y479 f480 y481 f482 y483 f484 y485 f486 y487 f488 y489 f490 y491 f492 y493 f494
                        rintro w22 hs_
                        have HS := Aside0.mk hs_
                        clear hs_
                        obtain ⟨y495, f496, y497, f498, y499, f500⟩ := impl_rv.c3 HS.out.s
                        obtain ⟨y501, f502, y503, f504, y505, f506, y507, f508, y509, f510, y511, f512, y513, f514, y515, f516⟩ := impl_rv.c8 HS.out.h
                        obtain ⟨y517, f518, y519, f520, y521, f522, y523, f524, y525, f526, y527, f528, y529, f530, y531, f532⟩ := impl_rv.c8 HS.out.r
                        by_cases cE : 64 < n5
                        · have qE : decide (64 < n5) = true := decide_eq_true cE
                          have DE := Aside0.mk (show (if d5 = 0 then 3 else d5) = e5 by rw [HE5.out]; simp [cE])
                          clear cE
                          go_upto_region 34 with (first | (go_at_call 27; refine (impl_rv.fail_calls gs A0 c0 l0 p5 d5 3 _ (show impl_rv.At _ gs A0 c0 l0 p5 d5 from (show impl_rv.PK w _ gr gs gh A0 c0 l0 p5 d5 #[.int .i64 1, .int .i64 ver, .slice Ad dd.length cd, .slice As ss.length cs, .slice none 0 0, .int .i64 0, .int .i64 0, .int .i64 0] from (by first | done | ((with_reducible repeat (first | exact HS.out | apply impl_rv.PK.drewN | apply impl_rv.PK.drew)); done) | exact HS.out)).s)).mono ?_; rintro e w23 ⟨rfl, hg_, hk_⟩; rw [DE.out] at hg_; have hs_ := Aside0.mk (show impl_rv.PK w w23 gr gs gh A0 c0 l0 p5 e5 #[.int .i64 1, .int .i64 ver, .slice Ad dd.length cd, .slice As ss.length cs, .slice none 0 0, .int .i64 0, .int .i64 0, .int .i64 0] from impl_rv.PK.call (by first | done | ((with_reducible repeat (first | exact HS.out | apply impl_rv.PK.drewN | apply impl_rv.PK.drew)); done) | exact HS.out) hk_ hg_); clear HS; have HS := hs_; clear hs_ hg_ hk_; clear y495 f496 y497 f498 y499 f500 y501 f502 y503 f504 y505 f506 y507 f508 y509 f510 y511 f512 y513 f514 y515 f516 y517 f518 y519 f520 y521 f522 y523 f524 y525 f526 y527 f528 y529 f530 y531 f532; obtain ⟨y533, f534, y535, f536, y537, f538⟩ := impl_rv.c3 HS.out.s; obtain ⟨y539, f540, y541, f542, y543, f544, y545, f546, y547, f548, y549, f550, y551, f552, y553, f554⟩ := impl_rv.c8 HS.out.h; obtain ⟨y555, f556, y557, f558, y559, f560, y561, f562, y563, f564, y565, f566, y567, f568, y569, f570⟩ := impl_rv.c8 HS.out.r))
                          refine impl_rv.cwp_seal (fun W_ => impl_rv.PK w W_ gr gs gh A0 c0 l0 p5 e5 #[.int .i64 1, .int .i64 ver, .slice Ad dd.length cd, .slice As ss.length cs, .slice none 0 0, .int .i64 0, .int .i64 0, .int .i64 0]) (by first | done | ((with_reducible repeat (first | exact HS.out | apply impl_rv.PK.drewN | apply impl_rv.PK.drew)); done) | exact HS.out) ?_
                          clear HS y533 f534 y535 f536 y537 f538 y539 f540 y541 f542 y543 f544 y545 f546 y547 f548 y549 f550 y551 f552 y553 f554 y555 f556 y557 f558 y559 f560 y561 f562 y563 f564 y565 f566 y567 f568 y569 f570
                          rintro w24 hs_
                          have HS := Aside0.mk hs_
                          clear hs_
                          obtain ⟨y571, f572, y573, f574, y575, f576⟩ := impl_rv.c3 HS.out.s
                          obtain ⟨y577, f578, y579, f580, y581, f582, y583, f584, y585, f586, y587, f588, y589, f590, y591, f592⟩ := impl_rv.c8 HS.out.h
                          obtain ⟨y593, f594, y595, f596, y597, f598, y599, f600, y601, f602, y603, f604, y605, f606, y607, f608⟩ := impl_rv.c8 HS.out.r
                          clear DE
                          go_wp2_with (first | (go_at_call 29; refine (impl_rv.tk_calls gs A0 c0 l0 p5 e5 n5 p6 d6 t6 t6.length w _ (show impl_rv.PK w _ gr gs gh A0 c0 l0 p5 e5 #[.int .i64 1, .int .i64 ver, .slice Ad dd.length cd, .slice As ss.length cs, .slice none 0 0, .int .i64 0, .int .i64 0, .int .i64 0] from (by first | done | ((with_reducible repeat (first | exact HS.out | apply impl_rv.PK.drewN | apply impl_rv.PK.drew)); done) | exact HS.out)).b HS.out.gs_ (show impl_rv.At _ gs A0 c0 l0 p5 e5 from (show impl_rv.PK w _ gr gs gh A0 c0 l0 p5 e5 #[.int .i64 1, .int .i64 ver, .slice Ad dd.length cd, .slice As ss.length cs, .slice none 0 0, .int .i64 0, .int .i64 0, .int .i64 0] from (by first | done | ((with_reducible repeat (first | exact HS.out | apply impl_rv.PK.drewN | apply impl_rv.PK.drew)); done) | exact HS.out)).s) HI.out H6.out rfl).mono ?_; rintro e w25 ⟨A5, c5, rfl, hc_, hcl_, hg_, hk_⟩; have HC5 := Aside0.mk hc_; have HL5 := Aside0.mk hcl_; clear hc_ hcl_; have hs_ := Aside0.mk (show impl_rv.PK w w25 gr gs gh A0 c0 l0 p6 d6 #[.int .i64 1, .int .i64 ver, .slice Ad dd.length cd, .slice As ss.length cs, .slice none 0 0, .int .i64 0, .int .i64 0, .int .i64 0] from impl_rv.PK.call (by first | done | ((with_reducible repeat (first | exact HS.out | apply impl_rv.PK.drewN | apply impl_rv.PK.drew)); done) | exact HS.out) hk_ hg_); clear HS; have HS := hs_; clear hs_ hg_ hk_; clear y571 f572 y573 f574 y575 f576 y577 f578 y579 f580 y581 f582 y583 f584 y585 f586 y587 f588 y589 f590 y591 f592 y593 f594 y595 f596 y597 f598 y599 f600 y601 f602 y603 f604 y605 f606 y607 f608; obtain ⟨y609, f610, y611, f612, y613, f614⟩ := impl_rv.c3 HS.out.s; obtain ⟨y615, f616, y617, f618, y619, f620, y621, f622, y623, f624, y625, f626, y627, f628, y629, f630⟩ := impl_rv.c8 HS.out.h; obtain ⟨y631, f632, y633, f634, y635, f636, y637, f638, y639, f640, y641, f642, y643, f644, y645, f646⟩ := impl_rv.c8 HS.out.r) | (go_at_call 28; refine (impl_copied.calls A5 c5 t6 t6 _ (by with_reducible repeat (first | exact HC5.out | refine Kd.C_alloc ?_ _ | refine Kd.C_drewN ?_ _ | refine Kd.C_drew ?_)) HL5.out (impl_rv.copied_is t6 HQ6.out)).mono ?_; rintro e w26 ⟨vp_, rfl, ho_, hb_⟩; obtain ⟨At, ct, rfl⟩ := Kd.R_slice ho_; have hs_ := Aside0.mk (show impl_rv.PK w w26 gr gs gh A0 c0 l0 p6 d6 #[.int .i64 1, .int .i64 ver, .slice Ad dd.length cd, .slice As ss.length cs, .slice none 0 0, .int .i64 0, .int .i64 0, .int .i64 0] from impl_rv.PK.below (by first | done | ((with_reducible repeat (first | exact HS.out | apply impl_rv.PK.drewN | apply impl_rv.PK.drew)); done) | exact HS.out) hb_); clear HS; have HS := hs_; clear hs_ ho_ hb_; clear y609 f610 y611 f612 y613 f614 y615 f616 y617 f618 y619 f620 y621 f622 y623 f624 y625 f626 y627 f628 y629 f630 y631 f632 y633 f634 y635 f636 y637 f638 y639 f640 y641 f642 y643 f644 y645 f646; obtain ⟨y647, f648, y649, f650, y651, f652⟩ := impl_rv.c3 HS.out.s; obtain ⟨y653, f654, y655, f656, y657, f658, y659, f660, y661, f662, y663, f664, y665, f666, y667, f668⟩ := impl_rv.c8 HS.out.h; obtain ⟨y669, f670, y671, f672, y673, f674, y675, f676, y677, f678, y679, f680, y681, f682, y683, f684⟩ := impl_rv.c8 HS.out.r))
                          go_meet
                          case rel => exact ⟨At, t6.length, ct, ⟨by rw [FM.out]; exact (by (with_reducible repeat (first | exact HS.out | apply impl_rv.PK.drewN | apply impl_rv.PK.drew)); refine impl_rv.PK.put (cs := #[.int .i64 1, .int .i64 ver, .slice Ad dd.length cd, .slice As ss.length cs, .slice none 0 0, .int .i64 0, .int .i64 0, .int .i64 0]) ?_ 4 _ rfl; first | done | ((with_reducible repeat (first | exact HS.out | apply impl_rv.PK.drewN | apply impl_rv.PK.drew)); done) | exact HS.out)⟩⟩
                        · have qE : decide (64 < n5) = false := decide_eq_false cE
                          have DE := Aside0.mk (show d5 = e5 by rw [HE5.out, if_neg (fun h_ => cE h_.1)])
                          clear cE
                          go_upto_region 34 with (fail)
                          have HS_ := HS.out
                          clear HS
                          rw [DE.out] at HS_
                          have HS := Aside0.mk HS_
                          clear HS_
                          refine impl_rv.cwp_seal (fun W_ => impl_rv.PK w W_ gr gs gh A0 c0 l0 p5 e5 #[.int .i64 1, .int .i64 ver, .slice Ad dd.length cd, .slice As ss.length cs, .slice none 0 0, .int .i64 0, .int .i64 0, .int .i64 0]) (by first | done | ((with_reducible repeat (first | exact HS.out | apply impl_rv.PK.drewN | apply impl_rv.PK.drew)); done) | exact HS.out) ?_
                          clear HS y495 f496 y497 f498 y499 f500 y501 f502 y503 f504 y505 f506 y507 f508 y509 f510 y511 f512 y513 f514 y515 f516 y517 f518 y519 f520 y521 f522 y523 f524 y525 f526 y527 f528 y529 f530 y531 f532
                          rintro w24 hs_
                          have HS := Aside0.mk hs_
                          clear hs_
                          obtain ⟨y533, f534, y535, f536, y537, f538⟩ := impl_rv.c3 HS.out.s
                          obtain ⟨y539, f540, y541, f542, y543, f544, y545, f546, y547, f548, y549, f550, y551, f552, y553, f554⟩ := impl_rv.c8 HS.out.h
                          obtain ⟨y555, f556, y557, f558, y559, f560, y561, f562, y563, f564, y565, f566, y567, f568, y569, f570⟩ := impl_rv.c8 HS.out.r
                          clear DE
                          go_wp2_with (first | (go_at_call 29; refine (impl_rv.tk_calls gs A0 c0 l0 p5 e5 n5 p6 d6 t6 t6.length w _ (show impl_rv.PK w _ gr gs gh A0 c0 l0 p5 e5 #[.int .i64 1, .int .i64 ver, .slice Ad dd.length cd, .slice As ss.length cs, .slice none 0 0, .int .i64 0, .int .i64 0, .int .i64 0] from (by first | done | ((with_reducible repeat (first | exact HS.out | apply impl_rv.PK.drewN | apply impl_rv.PK.drew)); done) | exact HS.out)).b HS.out.gs_ (show impl_rv.At _ gs A0 c0 l0 p5 e5 from (show impl_rv.PK w _ gr gs gh A0 c0 l0 p5 e5 #[.int .i64 1, .int .i64 ver, .slice Ad dd.length cd, .slice As ss.length cs, .slice none 0 0, .int .i64 0, .int .i64 0, .int .i64 0] from (by first | done | ((with_reducible repeat (first | exact HS.out | apply impl_rv.PK.drewN | apply impl_rv.PK.drew)); done) | exact HS.out)).s) HI.out H6.out rfl).mono ?_; rintro e w25 ⟨A5, c5, rfl, hc_, hcl_, hg_, hk_⟩; have HC5 := Aside0.mk hc_; have HL5 := Aside0.mk hcl_; clear hc_ hcl_; have hs_ := Aside0.mk (show impl_rv.PK w w25 gr gs gh A0 c0 l0 p6 d6 #[.int .i64 1, .int .i64 ver, .slice Ad dd.length cd, .slice As ss.length cs, .slice none 0 0, .int .i64 0, .int .i64 0, .int .i64 0] from impl_rv.PK.call (by first | done | ((with_reducible repeat (first | exact HS.out | apply impl_rv.PK.drewN | apply impl_rv.PK.drew)); done) | exact HS.out) hk_ hg_); clear HS; have HS := hs_; clear hs_ hg_ hk_; clear y533 f534 y535 f536 y537 f538 y539 f540 y541 f542 y543 f544 y545 f546 y547 f548 y549 f550 y551 f552 y553 f554 y555 f556 y557 f558 y559 f560 y561 f562 y563 f564 y565 f566 y567 f568 y569 f570; obtain ⟨y571, f572, y573, f574, y575, f576⟩ := impl_rv.c3 HS.out.s; obtain ⟨y577, f578, y579, f580, y581, f582, y583, f584, y585, f586, y587, f588, y589, f590, y591, f592⟩ := impl_rv.c8 HS.out.h; obtain ⟨y593, f594, y595, f596, y597, f598, y599, f600, y601, f602, y603, f604, y605, f606, y607, f608⟩ := impl_rv.c8 HS.out.r) | (go_at_call 28; refine (impl_copied.calls A5 c5 t6 t6 _ (by with_reducible repeat (first | exact HC5.out | refine Kd.C_alloc ?_ _ | refine Kd.C_drewN ?_ _ | refine Kd.C_drew ?_)) HL5.out (impl_rv.copied_is t6 HQ6.out)).mono ?_; rintro e w26 ⟨vp_, rfl, ho_, hb_⟩; obtain ⟨At, ct, rfl⟩ := Kd.R_slice ho_; have hs_ := Aside0.mk (show impl_rv.PK w w26 gr gs gh A0 c0 l0 p6 d6 #[.int .i64 1, .int .i64 ver, .slice Ad dd.length cd, .slice As ss.length cs, .slice none 0 0, .int .i64 0, .int .i64 0, .int .i64 0] from impl_rv.PK.below (by first | done | ((with_reducible repeat (first | exact HS.out | apply impl_rv.PK.drewN | apply impl_rv.PK.drew)); done) | exact HS.out) hb_); clear HS; have HS := hs_; clear hs_ ho_ hb_; clear y571 f572 y573 f574 y575 f576 y577 f578 y579 f580 y581 f582 y583 f584 y585 f586 y587 f588 y589 f590 y591 f592 y593 f594 y595 f596 y597 f598 y599 f600 y601 f602 y603 f604 y605 f606 y607 f608; obtain ⟨y609, f610, y611, f612, y613, f614⟩ := impl_rv.c3 HS.out.s; obtain ⟨y615, f616, y617, f618, y619, f620, y621, f622, y623, f624, y625, f626, y627, f628, y629, f630⟩ := impl_rv.c8 HS.out.h; obtain ⟨y631, f632, y633, f634, y635, f636, y637, f638, y639, f640, y641, f642, y643, f644, y645, f646⟩ := impl_rv.c8 HS.out.r))
                          go_meet
                          case rel => exact ⟨At, t6.length, ct, ⟨by rw [FM.out]; exact (by (with_reducible repeat (first | exact HS.out | apply impl_rv.PK.drewN | apply impl_rv.PK.drew)); refine impl_rv.PK.put (cs := #[.int .i64 1, .int .i64 ver, .slice Ad dd.length cd, .slice As ss.length cs, .slice none 0 0, .int .i64 0, .int .i64 0, .int .i64 0]) ?_ 4 _ rfl; first | done | ((with_reducible repeat (first | exact HS.out | apply impl_rv.PK.drewN | apply impl_rv.PK.drew)); done) | exact HS.out)⟩⟩
                    case rest =>
                      clear HS HM HFM y381 f382 y383 f384 y385 f386 y387 f388 y389 f390 y391 f392 y393 f394 y395 f396 y397 f398 y399 f400 y401 f402 y403 f404 y405 f406 y407 f408 y409 f410 y411 f412 y413 f414 y415 f416 y417 f418
                      obtain ⟨vA, vn, vc, HS⟩ := hcut
                      obtain ⟨y419, f420, y421, f422, y423, f424⟩ := impl_rv.c3 HS.out.s
                      obtain ⟨y425, f426, y427, f428, y429, f430, y431, f432, y433, f434, y435, f436, y437, f438, y439, f440⟩ := impl_rv.c8 HS.out.h
                      obtain ⟨y441, f442, y443, f444, y445, f446, y447, f448, y449, f450, y451, f452, y453, f454, y455, f456⟩ := impl_rv.c8 HS.out.r
                      refine impl_rv.next_ (by assumption) ?_
                      have h := H.out
                      clear H
                      unfold impl_rv.rest3 at h
                      obtain ⟨⟨n7, p7, d7⟩, h_, h⟩ := Option.bind_eq_some_iff.1 h
                      have H7 := Aside0.mk h_
                      clear h_
                      dsimp only at h
                      obtain ⟨⟨t8, p8, d8⟩, h8, h⟩ := Option.bind_eq_some_iff.1 h
                      obtain ⟨e7, he7⟩ : ∃ e7 : Int, e7 = (if d7 = 0 ∧ (n7 < 12 ∨ 1508 < n7) then 3 else d7) := ⟨_, rfl⟩
                      dsimp only at h8 h
                      rw [← he7] at h8
                      have H8 := Aside0.mk h8
                      have HE7 := Aside0.mk he7
                      clear h8 he7
                      simp only [Option.some.injEq, Prod.mk.injEq] at h
                      obtain ⟨rfl, rfl, rfl, rfl⟩ := h
                      go_upto_region 46 with (first | (go_at_call 31; refine (impl_rv.num_calls k gs A0 c0 l0 m1 m2 n7 p7 d7 _ (show impl_rv.At _ gs A0 c0 l0 m1 m2 from (show impl_rv.PK w _ gr gs gh A0 c0 l0 m1 m2 #[.int .i64 fm, .int .i64 ver, .slice Ad dd.length cd, .slice As ss.length cs, .slice vA vn vc, .int .i64 0, .int .i64 0, .int .i64 0] from (by first | done | ((with_reducible repeat (first | exact HS.out | apply impl_rv.PK.drewN | apply impl_rv.PK.drew)); done) | exact HS.out)).s) (Kd.C_below HI.out.r (show impl_rv.PK w _ gr gs gh A0 c0 l0 m1 m2 #[.int .i64 fm, .int .i64 ver, .slice Ad dd.length cd, .slice As ss.length cs, .slice vA vn vc, .int .i64 0, .int .i64 0, .int .i64 0] from (by first | done | ((with_reducible repeat (first | exact HS.out | apply impl_rv.PK.drewN | apply impl_rv.PK.drew)); done) | exact HS.out)).b) HI.out.c H7.out).mono ?_; rintro e w20 ⟨rfl, hg_, hk_⟩; have hs_ := Aside0.mk (show impl_rv.PK w w20 gr gs gh A0 c0 l0 p7 d7 #[.int .i64 fm, .int .i64 ver, .slice Ad dd.length cd, .slice As ss.length cs, .slice vA vn vc, .int .i64 0, .int .i64 0, .int .i64 0] from impl_rv.PK.call (by first | done | ((with_reducible repeat (first | exact HS.out | apply impl_rv.PK.drewN | apply impl_rv.PK.drew)); done) | exact HS.out) hk_ hg_); clear HS; have HS := hs_; clear hs_ hg_ hk_; clear y419 f420 y421 f422 y423 f424 y425 f426 y427 f428 y429 f430 y431 f432 y433 f434 y435 f436 y437 f438 y439 f440 y441 f442 y443 f444 y445 f446 y447 f448 y449 f450 y451 f452 y453 f454 y455 f456; obtain ⟨y457, f458, y459, f460, y461, f462⟩ := impl_rv.c3 HS.out.s; obtain ⟨y463, f464, y465, f466, y467, f468, y469, f470, y471, f472, y473, f474, y475, f476, y477, f478⟩ := impl_rv.c8 HS.out.h; obtain ⟨y479, f480, y481, f482, y483, f484, y485, f486, y487, f488, y489, f490, y491, f492, y493, f494⟩ := impl_rv.c8 HS.out.r))
                      refine impl_rv.cwp_seal (fun W_ => impl_rv.PK w W_ gr gs gh A0 c0 l0 p7 d7 #[.int .i64 fm, .int .i64 ver, .slice Ad dd.length cd, .slice As ss.length cs, .slice vA vn vc, .int .i64 0, .int .i64 0, .int .i64 0]) (by first | done | ((with_reducible repeat (first | exact HS.out | apply impl_rv.PK.drewN | apply impl_rv.PK.drew)); done) | exact HS.out) ?_
                      clear HS y457 f458 y459 f460 y461 f462 y463 f464 y465 f466 y467 f468 y469 f470 y471 f472 y473 f474 y475 f476 y477 f478 y479 f480 y481 f482 y483 f484 y485 f486 y487 f488 y489 f490 y491 f492 y493 f494
                      rintro w21 hs_
                      have HS := Aside0.mk hs_
                      clear hs_
                      obtain ⟨y495, f496, y497, f498, y499, f500⟩ := impl_rv.c3 HS.out.s
                      obtain ⟨y501, f502, y503, f504, y505, f506, y507, f508, y509, f510, y511, f512, y513, f514, y515, f516⟩ := impl_rv.c8 HS.out.h
                      obtain ⟨y517, f518, y519, f520, y521, f522, y523, f524, y525, f526, y527, f528, y529, f530, y531, f532⟩ := impl_rv.c8 HS.out.r
                      by_cases cF : d7 = 0
                      · have qF : (d7 == 0) = true := beq_iff_eq.2 cF
                        by_cases cG : n7 < 12
                        · have qG : decide (n7 < 12) = true := decide_eq_true cG
                          have DE := Aside0.mk (show (if d7 = 0 then 3 else d7) = e7 by rw [HE7.out]; simp [cF, cG])
                          clear cF cG
                          go_upto_region 48 with (first | (go_at_call 27; refine (impl_rv.fail_calls gs A0 c0 l0 p7 d7 3 _ (show impl_rv.At _ gs A0 c0 l0 p7 d7 from (show impl_rv.PK w _ gr gs gh A0 c0 l0 p7 d7 #[.int .i64 fm, .int .i64 ver, .slice Ad dd.length cd, .slice As ss.length cs, .slice vA vn vc, .int .i64 0, .int .i64 0, .int .i64 0] from (by first | done | ((with_reducible repeat (first | exact HS.out | apply impl_rv.PK.drewN | apply impl_rv.PK.drew)); done) | exact HS.out)).s)).mono ?_; rintro e w23 ⟨rfl, hg_, hk_⟩; rw [DE.out] at hg_; have hs_ := Aside0.mk (show impl_rv.PK w w23 gr gs gh A0 c0 l0 p7 e7 #[.int .i64 fm, .int .i64 ver, .slice Ad dd.length cd, .slice As ss.length cs, .slice vA vn vc, .int .i64 0, .int .i64 0, .int .i64 0] from impl_rv.PK.call (by first | done | ((with_reducible repeat (first | exact HS.out | apply impl_rv.PK.drewN | apply impl_rv.PK.drew)); done) | exact HS.out) hk_ hg_); clear HS; have HS := hs_; clear hs_ hg_ hk_; clear y495 f496 y497 f498 y499 f500 y501 f502 y503 f504 y505 f506 y507 f508 y509 f510 y511 f512 y513 f514 y515 f516 y517 f518 y519 f520 y521 f522 y523 f524 y525 f526 y527 f528 y529 f530 y531 f532; obtain ⟨y533, f534, y535, f536, y537, f538⟩ := impl_rv.c3 HS.out.s; obtain ⟨y539, f540, y541, f542, y543, f544, y545, f546, y547, f548, y549, f550, y551, f552, y553, f554⟩ := impl_rv.c8 HS.out.h; obtain ⟨y555, f556, y557, f558, y559, f560, y561, f562, y563, f564, y565, f566, y567, f568, y569, f570⟩ := impl_rv.c8 HS.out.r))
                          refine impl_rv.cwp_seal (fun W_ => impl_rv.PK w W_ gr gs gh A0 c0 l0 p7 e7 #[.int .i64 fm, .int .i64 ver, .slice Ad dd.length cd, .slice As ss.length cs, .slice vA vn vc, .int .i64 0, .int .i64 0, .int .i64 0]) (by first | done | ((with_reducible repeat (first | exact HS.out | apply impl_rv.PK.drewN | apply impl_rv.PK.drew)); done) | exact HS.out) ?_
                          clear HS y533 f534 y535 f536 y537 f538 y539 f540 y541 f542 y543 f544 y545 f546 y547 f548 y549 f550 y551 f552 y553 f554 y555 f556 y557 f558 y559 f560 y561 f562 y563 f564 y565 f566 y567 f568 y569 f570
                          rintro w24 hs_
                          have HS := Aside0.mk hs_
                          clear hs_
                          obtain ⟨y571, f572, y573, f574, y575, f576⟩ := impl_rv.c3 HS.out.s
                          obtain ⟨y577, f578, y579, f580, y581, f582, y583, f584, y585, f586, y587, f588, y589, f590, y591, f592⟩ := impl_rv.c8 HS.out.h
                          obtain ⟨y593, f594, y595, f596, y597, f598, y599, f600, y601, f602, y603, f604, y605, f606, y607, f608⟩ := impl_rv.c8 HS.out.r
                          clear DE
                          go_upto_region 50 with (first | (go_at_call 29; refine (impl_rv.tk_calls gs A0 c0 l0 p7 e7 n7 p8 d8 t8 t8.length w _ (show impl_rv.PK w _ gr gs gh A0 c0 l0 p7 e7 #[.int .i64 fm, .int .i64 ver, .slice Ad dd.length cd, .slice As ss.length cs, .slice vA vn vc, .int .i64 0, .int .i64 0, .int .i64 0] from (by first | done | ((with_reducible repeat (first | exact HS.out | apply impl_rv.PK.drewN | apply impl_rv.PK.drew)); done) | exact HS.out)).b HS.out.gs_ (show impl_rv.At _ gs A0 c0 l0 p7 e7 from (show impl_rv.PK w _ gr gs gh A0 c0 l0 p7 e7 #[.int .i64 fm, .int .i64 ver, .slice Ad dd.length cd, .slice As ss.length cs, .slice vA vn vc, .int .i64 0, .int .i64 0, .int .i64 0] from (by first | done | ((with_reducible repeat (first | exact HS.out | apply impl_rv.PK.drewN | apply impl_rv.PK.drew)); done) | exact HS.out)).s) HI.out H8.out rfl).mono ?_; rintro e w25 ⟨A5, c5, rfl, hc_, hcl_, hg_, hk_⟩; have HC5 := Aside0.mk hc_; have HL5 := Aside0.mk hcl_; clear hc_ hcl_; have hs_ := Aside0.mk (show impl_rv.PK w w25 gr gs gh A0 c0 l0 p8 d8 #[.int .i64 fm, .int .i64 ver, .slice Ad dd.length cd, .slice As ss.length cs, .slice vA vn vc, .int .i64 0, .int .i64 0, .int .i64 0] from impl_rv.PK.call (by first | done | ((with_reducible repeat (first | exact HS.out | apply impl_rv.PK.drewN | apply impl_rv.PK.drew)); done) | exact HS.out) hk_ hg_); clear HS; have HS := hs_; clear hs_ hg_ hk_; clear y571 f572 y573 f574 y575 f576 y577 f578 y579 f580 y581 f582 y583 f584 y585 f586 y587 f588 y589 f590 y591 f592 y593 f594 y595 f596 y597 f598 y599 f600 y601 f602 y603 f604 y605 f606 y607 f608; obtain ⟨y609, f610, y611, f612, y613, f614⟩ := impl_rv.c3 HS.out.s; obtain ⟨y615, f616, y617, f618, y619, f620, y621, f622, y623, f624, y625, f626, y627, f628, y629, f630⟩ := impl_rv.c8 HS.out.h; obtain ⟨y631, f632, y633, f634, y635, f636, y637, f638, y639, f640, y641, f642, y643, f644, y645, f646⟩ := impl_rv.c8 HS.out.r))
                          refine impl_rv.cwp_seal (fun W_ => impl_rv.PK w W_ gr gs gh A0 c0 l0 p8 d8 #[.int .i64 fm, .int .i64 ver, .slice Ad dd.length cd, .slice As ss.length cs, .slice vA vn vc, .int .i64 0, .int .i64 0, .int .i64 0]) (by first | done | ((with_reducible repeat (first | exact HS.out | apply impl_rv.PK.drewN | apply impl_rv.PK.drew)); done) | exact HS.out) ?_
                          clear HS y609 f610 y611 f612 y613 f614 y615 f616 y617 f618 y619 f620 y621 f622 y623 f624 y625 f626 y627 f628 y629 f630 y631 f632 y633 f634 y635 f636 y637 f638 y639 f640 y641 f642 y643 f644 y645 f646
                          rintro w26 hs_
                          have HS := Aside0.mk hs_
                          clear hs_
                          obtain ⟨y647, f648, y649, f650, y651, f652⟩ := impl_rv.c3 HS.out.s
                          obtain ⟨y653, f654, y655, f656, y657, f658, y659, f660, y661, f662, y663, f664, y665, f666, y667, f668⟩ := impl_rv.c8 HS.out.h
                          obtain ⟨y669, f670, y671, f672, y673, f674, y675, f676, y677, f678, y679, f680, y681, f682, y683, f684⟩ := impl_rv.c8 HS.out.r
                          go_region
                          all_goals go_wp2
                          all_goals (refine bodyPost_ret (impl_rv.results_cttt rfl _ _ _ gr 33 #[.int .i64 fm, .int .i64 ver, .slice Ad dd.length cd, .slice As ss.length cs, .slice vA vn vc, .int .i64 0, .int .i64 0, .int .i64 0] (0, 0) _ rfl (by (with_reducible repeat (first | refine blk_drewN ?_ _ | refine blk_drew ?_ | refine blk_alloc ?_ _)); refine blk_put (cs := #[.int .i64 fm, .int .i64 ver, .slice Ad dd.length cd, .slice As ss.length cs, .slice vA vn vc, .int .i64 0, .int .i64 0, .int .i64 0]) ?_ 7 _ rfl; refine blk_put (cs := #[.int .i64 fm, .int .i64 ver, .slice Ad dd.length cd, .slice As ss.length cs, .slice vA vn vc, .int .i64 0, .int .i64 0, .int .i64 0]) ?_ 6 _ rfl; refine blk_put (cs := #[.int .i64 fm, .int .i64 ver, .slice Ad dd.length cd, .slice As ss.length cs, .slice vA vn vc, .int .i64 0, .int .i64 0, .int .i64 0]) ?_ 5 _ rfl; refine blk_put (cs := #[.int .i64 fm, .int .i64 ver, .slice Ad dd.length cd, .slice As ss.length cs, .slice none 0 0, .int .i64 0, .int .i64 0, .int .i64 0]) ?_ 4 _ rfl; refine blk_put (cs := #[.int .i64 fm, .int .i64 ver, .slice Ad dd.length cd, .slice none 0 0, .slice none 0 0, .int .i64 0, .int .i64 0, .int .i64 0]) ?_ 3 _ rfl; refine blk_put (cs := #[.int .i64 fm, .int .i64 ver, .slice none 0 0, .slice none 0 0, .slice none 0 0, .int .i64 0, .int .i64 0, .int .i64 0]) ?_ 2 _ rfl; refine blk_put (cs := #[.int .i64 fm, .int .i64 0, .slice none 0 0, .slice none 0 0, .slice none 0 0, .int .i64 0, .int .i64 0, .int .i64 0]) ?_ 1 _ rfl; refine blk_put (cs := #[.int .i64 0, .int .i64 0, .slice none 0 0, .slice none 0 0, .slice none 0 0, .int .i64 0, .int .i64 0, .int .i64 0]) ?_ 0 _ rfl; (with_reducible repeat (first | refine blk_drewN ?_ _ | refine blk_drew ?_ | refine blk_alloc ?_ _)); exact HS.out.r) Try.underlying33 rfl (by kernel_rfl)) rfl ?_)
                          all_goals (exact ⟨⟨ver, Ad, cd, As, cs, vA, vn, vc, _, _, rfl⟩, (by (with_reducible repeat (first | exact HS.out.b | refine below_set ?_ HS.out.gr_ | apply below_alloc | apply pw_below_drewN | apply below_drew1)); first | done | exact HS.out.b)⟩)
                        · have qG : decide (n7 < 12) = false := decide_eq_false cG
                          have cH := Aside0.mk cG
                          clear cG
                          by_cases cG : 1508 < n7
                          · have qH : decide (1508 < n7) = true := decide_eq_true cG
                            have DE := Aside0.mk (show (if d7 = 0 then 3 else d7) = e7 by rw [HE7.out]; simp [cF, cG])
                            clear cF cG
                            go_upto_region 48 with (first | (go_at_call 27; refine (impl_rv.fail_calls gs A0 c0 l0 p7 d7 3 _ (show impl_rv.At _ gs A0 c0 l0 p7 d7 from (show impl_rv.PK w _ gr gs gh A0 c0 l0 p7 d7 #[.int .i64 fm, .int .i64 ver, .slice Ad dd.length cd, .slice As ss.length cs, .slice vA vn vc, .int .i64 0, .int .i64 0, .int .i64 0] from (by first | done | ((with_reducible repeat (first | exact HS.out | apply impl_rv.PK.drewN | apply impl_rv.PK.drew)); done) | exact HS.out)).s)).mono ?_; rintro e w23 ⟨rfl, hg_, hk_⟩; rw [DE.out] at hg_; have hs_ := Aside0.mk (show impl_rv.PK w w23 gr gs gh A0 c0 l0 p7 e7 #[.int .i64 fm, .int .i64 ver, .slice Ad dd.length cd, .slice As ss.length cs, .slice vA vn vc, .int .i64 0, .int .i64 0, .int .i64 0] from impl_rv.PK.call (by first | done | ((with_reducible repeat (first | exact HS.out | apply impl_rv.PK.drewN | apply impl_rv.PK.drew)); done) | exact HS.out) hk_ hg_); clear HS; have HS := hs_; clear hs_ hg_ hk_; clear y495 f496 y497 f498 y499 f500 y501 f502 y503 f504 y505 f506 y507 f508 y509 f510 y511 f512 y513 f514 y515 f516 y517 f518 y519 f520 y521 f522 y523 f524 y525 f526 y527 f528 y529 f530 y531 f532; obtain ⟨y533, f534, y535, f536, y537, f538⟩ := impl_rv.c3 HS.out.s; obtain ⟨y539, f540, y541, f542, y543, f544, y545, f546, y547, f548, y549, f550, y551, f552, y553, f554⟩ := impl_rv.c8 HS.out.h; obtain ⟨y555, f556, y557, f558, y559, f560, y561, f562, y563, f564, y565, f566, y567, f568, y569, f570⟩ := impl_rv.c8 HS.out.r))
                            refine impl_rv.cwp_seal (fun W_ => impl_rv.PK w W_ gr gs gh A0 c0 l0 p7 e7 #[.int .i64 fm, .int .i64 ver, .slice Ad dd.length cd, .slice As ss.length cs, .slice vA vn vc, .int .i64 0, .int .i64 0, .int .i64 0]) (by first | done | ((with_reducible repeat (first | exact HS.out | apply impl_rv.PK.drewN | apply impl_rv.PK.drew)); done) | exact HS.out) ?_
                            clear HS y533 f534 y535 f536 y537 f538 y539 f540 y541 f542 y543 f544 y545 f546 y547 f548 y549 f550 y551 f552 y553 f554 y555 f556 y557 f558 y559 f560 y561 f562 y563 f564 y565 f566 y567 f568 y569 f570
                            rintro w24 hs_
                            have HS := Aside0.mk hs_
                            clear hs_
                            obtain ⟨y571, f572, y573, f574, y575, f576⟩ := impl_rv.c3 HS.out.s
                            obtain ⟨y577, f578, y579, f580, y581, f582, y583, f584, y585, f586, y587, f588, y589, f590, y591, f592⟩ := impl_rv.c8 HS.out.h
                            obtain ⟨y593, f594, y595, f596, y597, f598, y599, f600, y601, f602, y603, f604, y605, f606, y607, f608⟩ := impl_rv.c8 HS.out.r
                            clear DE
                            go_upto_region 50 with (first | (go_at_call 29; refine (impl_rv.tk_calls gs A0 c0 l0 p7 e7 n7 p8 d8 t8 t8.length w _ (show impl_rv.PK w _ gr gs gh A0 c0 l0 p7 e7 #[.int .i64 fm, .int .i64 ver, .slice Ad dd.length cd, .slice As ss.length cs, .slice vA vn vc, .int .i64 0, .int .i64 0, .int .i64 0] from (by first | done | ((with_reducible repeat (first | exact HS.out | apply impl_rv.PK.drewN | apply impl_rv.PK.drew)); done) | exact HS.out)).b HS.out.gs_ (show impl_rv.At _ gs A0 c0 l0 p7 e7 from (show impl_rv.PK w _ gr gs gh A0 c0 l0 p7 e7 #[.int .i64 fm, .int .i64 ver, .slice Ad dd.length cd, .slice As ss.length cs, .slice vA vn vc, .int .i64 0, .int .i64 0, .int .i64 0] from (by first | done | ((with_reducible repeat (first | exact HS.out | apply impl_rv.PK.drewN | apply impl_rv.PK.drew)); done) | exact HS.out)).s) HI.out H8.out rfl).mono ?_; rintro e w25 ⟨A5, c5, rfl, hc_, hcl_, hg_, hk_⟩; have HC5 := Aside0.mk hc_; have HL5 := Aside0.mk hcl_; clear hc_ hcl_; have hs_ := Aside0.mk (show impl_rv.PK w w25 gr gs gh A0 c0 l0 p8 d8 #[.int .i64 fm, .int .i64 ver, .slice Ad dd.length cd, .slice As ss.length cs, .slice vA vn vc, .int .i64 0, .int .i64 0, .int .i64 0] from impl_rv.PK.call (by first | done | ((with_reducible repeat (first | exact HS.out | apply impl_rv.PK.drewN | apply impl_rv.PK.drew)); done) | exact HS.out) hk_ hg_); clear HS; have HS := hs_; clear hs_ hg_ hk_; clear y571 f572 y573 f574 y575 f576 y577 f578 y579 f580 y581 f582 y583 f584 y585 f586 y587 f588 y589 f590 y591 f592 y593 f594 y595 f596 y597 f598 y599 f600 y601 f602 y603 f604 y605 f606 y607 f608; obtain ⟨y609, f610, y611, f612, y613, f614⟩ := impl_rv.c3 HS.out.s; obtain ⟨y615, f616, y617, f618, y619, f620, y621, f622, y623, f624, y625, f626, y627, f628, y629, f630⟩ := impl_rv.c8 HS.out.h; obtain ⟨y631, f632, y633, f634, y635, f636, y637, f638, y639, f640, y641, f642, y643, f644, y645, f646⟩ := impl_rv.c8 HS.out.r))
                            refine impl_rv.cwp_seal (fun W_ => impl_rv.PK w W_ gr gs gh A0 c0 l0 p8 d8 #[.int .i64 fm, .int .i64 ver, .slice Ad dd.length cd, .slice As ss.length cs, .slice vA vn vc, .int .i64 0, .int .i64 0, .int .i64 0]) (by first | done | ((with_reducible repeat (first | exact HS.out | apply impl_rv.PK.drewN | apply impl_rv.PK.drew)); done) | exact HS.out) ?_
                            clear HS y609 f610 y611 f612 y613 f614 y615 f616 y617 f618 y619 f620 y621 f622 y623 f624 y625 f626 y627 f628 y629 f630 y631 f632 y633 f634 y635 f636 y637 f638 y639 f640 y641 f642 y643 f644 y645 f646
                            rintro w26 hs_
                            have HS := Aside0.mk hs_
                            clear hs_
                            obtain ⟨y647, f648, y649, f650, y651, f652⟩ := impl_rv.c3 HS.out.s
                            obtain ⟨y653, f654, y655, f656, y657, f658, y659, f660, y661, f662, y663, f664, y665, f666, y667, f668⟩ := impl_rv.c8 HS.out.h
                            obtain ⟨y669, f670, y671, f672, y673, f674, y675, f676, y677, f678, y679, f680, y681, f682, y683, f684⟩ := impl_rv.c8 HS.out.r
                            go_region
                            all_goals go_wp2
                            all_goals (refine bodyPost_ret (impl_rv.results_cttt rfl _ _ _ gr 33 #[.int .i64 fm, .int .i64 ver, .slice Ad dd.length cd, .slice As ss.length cs, .slice vA vn vc, .int .i64 0, .int .i64 0, .int .i64 0] (0, 0) _ rfl (by (with_reducible repeat (first | refine blk_drewN ?_ _ | refine blk_drew ?_ | refine blk_alloc ?_ _)); refine blk_put (cs := #[.int .i64 fm, .int .i64 ver, .slice Ad dd.length cd, .slice As ss.length cs, .slice vA vn vc, .int .i64 0, .int .i64 0, .int .i64 0]) ?_ 7 _ rfl; refine blk_put (cs := #[.int .i64 fm, .int .i64 ver, .slice Ad dd.length cd, .slice As ss.length cs, .slice vA vn vc, .int .i64 0, .int .i64 0, .int .i64 0]) ?_ 6 _ rfl; refine blk_put (cs := #[.int .i64 fm, .int .i64 ver, .slice Ad dd.length cd, .slice As ss.length cs, .slice vA vn vc, .int .i64 0, .int .i64 0, .int .i64 0]) ?_ 5 _ rfl; refine blk_put (cs := #[.int .i64 fm, .int .i64 ver, .slice Ad dd.length cd, .slice As ss.length cs, .slice none 0 0, .int .i64 0, .int .i64 0, .int .i64 0]) ?_ 4 _ rfl; refine blk_put (cs := #[.int .i64 fm, .int .i64 ver, .slice Ad dd.length cd, .slice none 0 0, .slice none 0 0, .int .i64 0, .int .i64 0, .int .i64 0]) ?_ 3 _ rfl; refine blk_put (cs := #[.int .i64 fm, .int .i64 ver, .slice none 0 0, .slice none 0 0, .slice none 0 0, .int .i64 0, .int .i64 0, .int .i64 0]) ?_ 2 _ rfl; refine blk_put (cs := #[.int .i64 fm, .int .i64 0, .slice none 0 0, .slice none 0 0, .slice none 0 0, .int .i64 0, .int .i64 0, .int .i64 0]) ?_ 1 _ rfl; refine blk_put (cs := #[.int .i64 0, .int .i64 0, .slice none 0 0, .slice none 0 0, .slice none 0 0, .int .i64 0, .int .i64 0, .int .i64 0]) ?_ 0 _ rfl; (with_reducible repeat (first | refine blk_drewN ?_ _ | refine blk_drew ?_ | refine blk_alloc ?_ _)); exact HS.out.r) Try.underlying33 rfl (by kernel_rfl)) rfl ?_)
                            all_goals (exact ⟨⟨ver, Ad, cd, As, cs, vA, vn, vc, _, _, rfl⟩, (by (with_reducible repeat (first | exact HS.out.b | refine below_set ?_ HS.out.gr_ | apply below_alloc | apply pw_below_drewN | apply below_drew1)); first | done | exact HS.out.b)⟩)
                          · have qH : decide (1508 < n7) = false := decide_eq_false cG
                            have cG := Aside0.mk cG
                            have DE := Aside0.mk (show d7 = e7 by rw [HE7.out]; rw [if_neg (fun h_ => h_.2.elim cH.out cG.out)])
                            clear cF
                            go_upto_region 48 with (fail)
                            have HS_ := HS.out
                            clear HS
                            rw [DE.out] at HS_
                            have HS := Aside0.mk HS_
                            clear HS_
                            refine impl_rv.cwp_seal (fun W_ => impl_rv.PK w W_ gr gs gh A0 c0 l0 p7 e7 #[.int .i64 fm, .int .i64 ver, .slice Ad dd.length cd, .slice As ss.length cs, .slice vA vn vc, .int .i64 0, .int .i64 0, .int .i64 0]) (by first | done | ((with_reducible repeat (first | exact HS.out | apply impl_rv.PK.drewN | apply impl_rv.PK.drew)); done) | exact HS.out) ?_
                            clear HS y495 f496 y497 f498 y499 f500 y501 f502 y503 f504 y505 f506 y507 f508 y509 f510 y511 f512 y513 f514 y515 f516 y517 f518 y519 f520 y521 f522 y523 f524 y525 f526 y527 f528 y529 f530 y531 f532
                            rintro w24 hs_
                            have HS := Aside0.mk hs_
                            clear hs_
                            obtain ⟨y533, f534, y535, f536, y537, f538⟩ := impl_rv.c3 HS.out.s
                            obtain ⟨y539, f540, y541, f542, y543, f544, y545, f546, y547, f548, y549, f550, y551, f552, y553, f554⟩ := impl_rv.c8 HS.out.h
                            obtain ⟨y555, f556, y557, f558, y559, f560, y561, f562, y563, f564, y565, f566, y567, f568, y569, f570⟩ := impl_rv.c8 HS.out.r
                            clear DE
                            go_upto_region 50 with (first | (go_at_call 29; refine (impl_rv.tk_calls gs A0 c0 l0 p7 e7 n7 p8 d8 t8 t8.length w _ (show impl_rv.PK w _ gr gs gh A0 c0 l0 p7 e7 #[.int .i64 fm, .int .i64 ver, .slice Ad dd.length cd, .slice As ss.length cs, .slice vA vn vc, .int .i64 0, .int .i64 0, .int .i64 0] from (by first | done | ((with_reducible repeat (first | exact HS.out | apply impl_rv.PK.drewN | apply impl_rv.PK.drew)); done) | exact HS.out)).b HS.out.gs_ (show impl_rv.At _ gs A0 c0 l0 p7 e7 from (show impl_rv.PK w _ gr gs gh A0 c0 l0 p7 e7 #[.int .i64 fm, .int .i64 ver, .slice Ad dd.length cd, .slice As ss.length cs, .slice vA vn vc, .int .i64 0, .int .i64 0, .int .i64 0] from (by first | done | ((with_reducible repeat (first | exact HS.out | apply impl_rv.PK.drewN | apply impl_rv.PK.drew)); done) | exact HS.out)).s) HI.out H8.out rfl).mono ?_; rintro e w25 ⟨A5, c5, rfl, hc_, hcl_, hg_, hk_⟩; have HC5 := Aside0.mk hc_; have HL5 := Aside0.mk hcl_; clear hc_ hcl_; have hs_ := Aside0.mk (show impl_rv.PK w w25 gr gs gh A0 c0 l0 p8 d8 #[.int .i64 fm, .int .i64 ver, .slice Ad dd.length cd, .slice As ss.length cs, .slice vA vn vc, .int .i64 0, .int .i64 0, .int .i64 0] from impl_rv.PK.call (by first | done | ((with_reducible repeat (first | exact HS.out | apply impl_rv.PK.drewN | apply impl_rv.PK.drew)); done) | exact HS.out) hk_ hg_); clear HS; have HS := hs_; clear hs_ hg_ hk_; clear y533 f534 y535 f536 y537 f538 y539 f540 y541 f542 y543 f544 y545 f546 y547 f548 y549 f550 y551 f552 y553 f554 y555 f556 y557 f558 y559 f560 y561 f562 y563 f564 y565 f566 y567 f568 y569 f570; obtain ⟨y571, f572, y573, f574, y575, f576⟩ := impl_rv.c3 HS.out.s; obtain ⟨y577, f578, y579, f580, y581, f582, y583, f584, y585, f586, y587, f588, y589, f590, y591, f592⟩ := impl_rv.c8 HS.out.h; obtain ⟨y593, f594, y595, f596, y597, f598, y599, f600, y601, f602, y603, f604, y605, f606, y607, f608⟩ := impl_rv.c8 HS.out.r))
                            refine impl_rv.cwp_seal (fun W_ => impl_rv.PK w W_ gr gs gh A0 c0 l0 p8 d8 #[.int .i64 fm, .int .i64 ver, .slice Ad dd.length cd, .slice As ss.length cs, .slice vA vn vc, .int .i64 0, .int .i64 0, .int .i64 0]) (by first | done | ((with_reducible repeat (first | exact HS.out | apply impl_rv.PK.drewN | apply impl_rv.PK.drew)); done) | exact HS.out) ?_
                            clear HS y571 f572 y573 f574 y575 f576 y577 f578 y579 f580 y581 f582 y583 f584 y585 f586 y587 f588 y589 f590 y591 f592 y593 f594 y595 f596 y597 f598 y599 f600 y601 f602 y603 f604 y605 f606 y607 f608
                            rintro w26 hs_
                            have HS := Aside0.mk hs_
                            clear hs_
                            obtain ⟨y609, f610, y611, f612, y613, f614⟩ := impl_rv.c3 HS.out.s
                            obtain ⟨y615, f616, y617, f618, y619, f620, y621, f622, y623, f624, y625, f626, y627, f628, y629, f630⟩ := impl_rv.c8 HS.out.h
                            obtain ⟨y631, f632, y633, f634, y635, f636, y637, f638, y639, f640, y641, f642, y643, f644, y645, f646⟩ := impl_rv.c8 HS.out.r
                            go_region
                            all_goals go_wp2
                            all_goals (refine bodyPost_ret (impl_rv.results_cttt rfl _ _ _ gr 33 #[.int .i64 fm, .int .i64 ver, .slice Ad dd.length cd, .slice As ss.length cs, .slice vA vn vc, .int .i64 0, .int .i64 0, .int .i64 0] (0, 0) _ rfl (by (with_reducible repeat (first | refine blk_drewN ?_ _ | refine blk_drew ?_ | refine blk_alloc ?_ _)); refine blk_put (cs := #[.int .i64 fm, .int .i64 ver, .slice Ad dd.length cd, .slice As ss.length cs, .slice vA vn vc, .int .i64 0, .int .i64 0, .int .i64 0]) ?_ 7 _ rfl; refine blk_put (cs := #[.int .i64 fm, .int .i64 ver, .slice Ad dd.length cd, .slice As ss.length cs, .slice vA vn vc, .int .i64 0, .int .i64 0, .int .i64 0]) ?_ 6 _ rfl; refine blk_put (cs := #[.int .i64 fm, .int .i64 ver, .slice Ad dd.length cd, .slice As ss.length cs, .slice vA vn vc, .int .i64 0, .int .i64 0, .int .i64 0]) ?_ 5 _ rfl; refine blk_put (cs := #[.int .i64 fm, .int .i64 ver, .slice Ad dd.length cd, .slice As ss.length cs, .slice none 0 0, .int .i64 0, .int .i64 0, .int .i64 0]) ?_ 4 _ rfl; refine blk_put (cs := #[.int .i64 fm, .int .i64 ver, .slice Ad dd.length cd, .slice none 0 0, .slice none 0 0, .int .i64 0, .int .i64 0, .int .i64 0]) ?_ 3 _ rfl; refine blk_put (cs := #[.int .i64 fm, .int .i64 ver, .slice none 0 0, .slice none 0 0, .slice none 0 0, .int .i64 0, .int .i64 0, .int .i64 0]) ?_ 2 _ rfl; refine blk_put (cs := #[.int .i64 fm, .int .i64 0, .slice none 0 0, .slice none 0 0, .slice none 0 0, .int .i64 0, .int .i64 0, .int .i64 0]) ?_ 1 _ rfl; refine blk_put (cs := #[.int .i64 0, .int .i64 0, .slice none 0 0, .slice none 0 0, .slice none 0 0, .int .i64 0, .int .i64 0, .int .i64 0]) ?_ 0 _ rfl; (with_reducible repeat (first | refine blk_drewN ?_ _ | refine blk_drew ?_ | refine blk_alloc ?_ _)); exact HS.out.r) Try.underlying33 rfl (by kernel_rfl)) rfl ?_)
                            all_goals (exact ⟨⟨ver, Ad, cd, As, cs, vA, vn, vc, _, _, rfl⟩, (by (with_reducible repeat (first | exact HS.out.b | refine below_set ?_ HS.out.gr_ | apply below_alloc | apply pw_below_drewN | apply below_drew1)); first | done | exact HS.out.b)⟩)
                      · have qF : (d7 == 0) = false := beq_eq_false_iff_ne.2 cF
                        have DE := Aside0.mk (show d7 = e7 by rw [HE7.out]; rw [if_neg (fun h_ => cF h_.1)])
                        clear cF
                        go_upto_region 48 with (fail)
                        have HS_ := HS.out
                        clear HS
                        rw [DE.out] at HS_
                        have HS := Aside0.mk HS_
                        clear HS_
                        refine impl_rv.cwp_seal (fun W_ => impl_rv.PK w W_ gr gs gh A0 c0 l0 p7 e7 #[.int .i64 fm, .int .i64 ver, .slice Ad dd.length cd, .slice As ss.length cs, .slice vA vn vc, .int .i64 0, .int .i64 0, .int .i64 0]) (by first | done | ((with_reducible repeat (first | exact HS.out | apply impl_rv.PK.drewN | apply impl_rv.PK.drew)); done) | exact HS.out) ?_
                        clear HS y495 f496 y497 f498 y499 f500 y501 f502 y503 f504 y505 f506 y507 f508 y509 f510 y511 f512 y513 f514 y515 f516 y517 f518 y519 f520 y521 f522 y523 f524 y525 f526 y527 f528 y529 f530 y531 f532
                        rintro w24 hs_
                        have HS := Aside0.mk hs_
                        clear hs_
                        obtain ⟨y533, f534, y535, f536, y537, f538⟩ := impl_rv.c3 HS.out.s
                        obtain ⟨y539, f540, y541, f542, y543, f544, y545, f546, y547, f548, y549, f550, y551, f552, y553, f554⟩ := impl_rv.c8 HS.out.h
                        obtain ⟨y555, f556, y557, f558, y559, f560, y561, f562, y563, f564, y565, f566, y567, f568, y569, f570⟩ := impl_rv.c8 HS.out.r
                        clear DE
                        go_upto_region 50 with (first | (go_at_call 29; refine (impl_rv.tk_calls gs A0 c0 l0 p7 e7 n7 p8 d8 t8 t8.length w _ (show impl_rv.PK w _ gr gs gh A0 c0 l0 p7 e7 #[.int .i64 fm, .int .i64 ver, .slice Ad dd.length cd, .slice As ss.length cs, .slice vA vn vc, .int .i64 0, .int .i64 0, .int .i64 0] from (by first | done | ((with_reducible repeat (first | exact HS.out | apply impl_rv.PK.drewN | apply impl_rv.PK.drew)); done) | exact HS.out)).b HS.out.gs_ (show impl_rv.At _ gs A0 c0 l0 p7 e7 from (show impl_rv.PK w _ gr gs gh A0 c0 l0 p7 e7 #[.int .i64 fm, .int .i64 ver, .slice Ad dd.length cd, .slice As ss.length cs, .slice vA vn vc, .int .i64 0, .int .i64 0, .int .i64 0] from (by first | done | ((with_reducible repeat (first | exact HS.out | apply impl_rv.PK.drewN | apply impl_rv.PK.drew)); done) | exact HS.out)).s) HI.out H8.out rfl).mono ?_; rintro e w25 ⟨A5, c5, rfl, hc_, hcl_, hg_, hk_⟩; have HC5 := Aside0.mk hc_; have HL5 := Aside0.mk hcl_; clear hc_ hcl_; have hs_ := Aside0.mk (show impl_rv.PK w w25 gr gs gh A0 c0 l0 p8 d8 #[.int .i64 fm, .int .i64 ver, .slice Ad dd.length cd, .slice As ss.length cs, .slice vA vn vc, .int .i64 0, .int .i64 0, .int .i64 0] from impl_rv.PK.call (by first | done | ((with_reducible repeat (first | exact HS.out | apply impl_rv.PK.drewN | apply impl_rv.PK.drew)); done) | exact HS.out) hk_ hg_); clear HS; have HS := hs_; clear hs_ hg_ hk_; clear y533 f534 y535 f536 y537 f538 y539 f540 y541 f542 y543 f544 y545 f546 y547 f548 y549 f550 y551 f552 y553 f554 y555 f556 y557 f558 y559 f560 y561 f562 y563 f564 y565 f566 y567 f568 y569 f570; obtain ⟨y571, f572, y573, f574, y575, f576⟩ := impl_rv.c3 HS.out.s; obtain ⟨y577, f578, y579, f580, y581, f582, y583, f584, y585, f586, y587, f588, y589, f590, y591, f592⟩ := impl_rv.c8 HS.out.h; obtain ⟨y593, f594, y595, f596, y597, f598, y599, f600, y601, f602, y603, f604, y605, f606, y607, f608⟩ := impl_rv.c8 HS.out.r))
                        refine impl_rv.cwp_seal (fun W_ => impl_rv.PK w W_ gr gs gh A0 c0 l0 p8 d8 #[.int .i64 fm, .int .i64 ver, .slice Ad dd.length cd, .slice As ss.length cs, .slice vA vn vc, .int .i64 0, .int .i64 0, .int .i64 0]) (by first | done | ((with_reducible repeat (first | exact HS.out | apply impl_rv.PK.drewN | apply impl_rv.PK.drew)); done) | exact HS.out) ?_
                        clear HS y571 f572 y573 f574 y575 f576 y577 f578 y579 f580 y581 f582 y583 f584 y585 f586 y587 f588 y589 f590 y591 f592 y593 f594 y595 f596 y597 f598 y599 f600 y601 f602 y603 f604 y605 f606 y607 f608
                        rintro w26 hs_
                        have HS := Aside0.mk hs_
                        clear hs_
                        obtain ⟨y609, f610, y611, f612, y613, f614⟩ := impl_rv.c3 HS.out.s
                        obtain ⟨y615, f616, y617, f618, y619, f620, y621, f622, y623, f624, y625, f626, y627, f628, y629, f630⟩ := impl_rv.c8 HS.out.h
                        obtain ⟨y631, f632, y633, f634, y635, f636, y637, f638, y639, f640, y641, f642, y643, f644, y645, f646⟩ := impl_rv.c8 HS.out.r
                        go_region
                        all_goals go_wp2
                        all_goals (refine bodyPost_ret (impl_rv.results_cttt rfl _ _ _ gr 33 #[.int .i64 fm, .int .i64 ver, .slice Ad dd.length cd, .slice As ss.length cs, .slice vA vn vc, .int .i64 0, .int .i64 0, .int .i64 0] (0, 0) _ rfl (by (with_reducible repeat (first | refine blk_drewN ?_ _ | refine blk_drew ?_ | refine blk_alloc ?_ _)); refine blk_put (cs := #[.int .i64 fm, .int .i64 ver, .slice Ad dd.length cd, .slice As ss.length cs, .slice vA vn vc, .int .i64 0, .int .i64 0, .int .i64 0]) ?_ 7 _ rfl; refine blk_put (cs := #[.int .i64 fm, .int .i64 ver, .slice Ad dd.length cd, .slice As ss.length cs, .slice vA vn vc, .int .i64 0, .int .i64 0, .int .i64 0]) ?_ 6 _ rfl; refine blk_put (cs := #[.int .i64 fm, .int .i64 ver, .slice Ad dd.length cd, .slice As ss.length cs, .slice vA vn vc, .int .i64 0, .int .i64 0, .int .i64 0]) ?_ 5 _ rfl; refine blk_put (cs := #[.int .i64 fm, .int .i64 ver, .slice Ad dd.length cd, .slice As ss.length cs, .slice none 0 0, .int .i64 0, .int .i64 0, .int .i64 0]) ?_ 4 _ rfl; refine blk_put (cs := #[.int .i64 fm, .int .i64 ver, .slice Ad dd.length cd, .slice none 0 0, .slice none 0 0, .int .i64 0, .int .i64 0, .int .i64 0]) ?_ 3 _ rfl; refine blk_put (cs := #[.int .i64 fm, .int .i64 ver, .slice none 0 0, .slice none 0 0, .slice none 0 0, .int .i64 0, .int .i64 0, .int .i64 0]) ?_ 2 _ rfl; refine blk_put (cs := #[.int .i64 fm, .int .i64 0, .slice none 0 0, .slice none 0 0, .slice none 0 0, .int .i64 0, .int .i64 0, .int .i64 0]) ?_ 1 _ rfl; refine blk_put (cs := #[.int .i64 0, .int .i64 0, .slice none 0 0, .slice none 0 0, .slice none 0 0, .int .i64 0, .int .i64 0, .int .i64 0]) ?_ 0 _ rfl; (with_reducible repeat (first | refine blk_drewN ?_ _ | refine blk_drew ?_ | refine blk_alloc ?_ _)); exact HS.out.r) Try.underlying33 rfl (by kernel_rfl)) rfl ?_)
                        all_goals (exact ⟨⟨ver, Ad, cd, As, cs, vA, vn, vc, _, _, rfl⟩, (by (with_reducible repeat (first | exact HS.out.b | refine below_set ?_ HS.out.gr_ | apply below_alloc | apply pw_below_drewN | apply below_drew1)); first | done | exact HS.out.b)⟩)
        · rw [if_neg c5] at h; exact absurd h (by simp)
      · rw [if_neg c4] at h
        have q4 : (d4 != 0) = true := bne_iff_ne.2 c4
        clear c4
        simp only [Option.some.injEq, Prod.mk.injEq] at h
        obtain ⟨rfl, rfl, rfl, rfl⟩ := h
        go_wp2
        go_region
        all_goals go_wp2
        all_goals (refine bodyPost_ret (impl_rv.results_cttt rfl _ _ _ gr 33 #[.int .i64 0, .int .i64 0, .slice Ad dd.length cd, .slice As ss.length cs, .slice none 0 0, .int .i64 0, .int .i64 0, .int .i64 0] (0, 0) _ rfl (by (with_reducible repeat (first | refine blk_drewN ?_ _ | refine blk_drew ?_ | refine blk_alloc ?_ _)); refine blk_put (cs := #[.int .i64 0, .int .i64 0, .slice Ad dd.length cd, .slice As ss.length cs, .slice none 0 0, .int .i64 0, .int .i64 0, .int .i64 0]) ?_ 7 _ rfl; refine blk_put (cs := #[.int .i64 0, .int .i64 0, .slice Ad dd.length cd, .slice As ss.length cs, .slice none 0 0, .int .i64 0, .int .i64 0, .int .i64 0]) ?_ 6 _ rfl; refine blk_put (cs := #[.int .i64 0, .int .i64 0, .slice Ad dd.length cd, .slice As ss.length cs, .slice none 0 0, .int .i64 0, .int .i64 0, .int .i64 0]) ?_ 5 _ rfl; refine blk_put (cs := #[.int .i64 0, .int .i64 0, .slice Ad dd.length cd, .slice As ss.length cs, .slice none 0 0, .int .i64 0, .int .i64 0, .int .i64 0]) ?_ 4 _ rfl; refine blk_put (cs := #[.int .i64 0, .int .i64 0, .slice Ad dd.length cd, .slice none 0 0, .slice none 0 0, .int .i64 0, .int .i64 0, .int .i64 0]) ?_ 3 _ rfl; refine blk_put (cs := #[.int .i64 0, .int .i64 0, .slice none 0 0, .slice none 0 0, .slice none 0 0, .int .i64 0, .int .i64 0, .int .i64 0]) ?_ 2 _ rfl; refine blk_put (cs := #[.int .i64 0, .int .i64 0, .slice none 0 0, .slice none 0 0, .slice none 0 0, .int .i64 0, .int .i64 0, .int .i64 0]) ?_ 1 _ rfl; refine blk_put (cs := #[.int .i64 0, .int .i64 0, .slice none 0 0, .slice none 0 0, .slice none 0 0, .int .i64 0, .int .i64 0, .int .i64 0]) ?_ 0 _ rfl; (with_reducible repeat (first | refine blk_drewN ?_ _ | refine blk_drew ?_ | refine blk_alloc ?_ _)); exact HS.out.r) Try.underlying33 rfl (by kernel_rfl)) rfl ?_)
        all_goals (exact ⟨⟨0, Ad, cd, As, cs, none, 0, 0, _, _, rfl⟩, (by (with_reducible repeat (first | exact HS.out.b | refine below_set ?_ HS.out.gr_ | apply below_alloc | apply pw_below_drewN | apply below_drew1)); first | done | exact HS.out.b)⟩)

def impl_rv.Peek0 (k : Nat) (l : List Int) : Option (Int × Nat × Nat × Int) :=
  if 65536 < l.length then some (0, 0, 0, 4) else (impl_rv.peek k l).bind fun r => if r.2.2.2 = 0 then some (r.1, r.2.1, r.2.2.1, 0) else some (0, 0, 0, r.2.2.2)
theorem impl_rv.Peek0_len {k : Nat} {l : List Int} {f : Int} {d s : Nat} {c : Int} (h : impl_rv.Peek0 k l = some (f, d, s, c)) : c = 0 → l.length ≤ 65536 := by
  intro hc
  unfold impl_rv.Peek0 at h
  by_cases c1 : 65536 < l.length
  · rw [if_pos c1] at h
    simp only [Option.some.injEq, Prod.mk.injEq] at h
    omega
  · omega
set_option maxHeartbeats 8000000 in
set_option maxRecDepth 100000 in
theorem impl_rv.Peek_calls (k : Nat) (A0 : Option Addr) (c0 : Nat) (l0 : List Int) (r1 : Int) (r2 r3 : Nat) (r4 : Int) (w : World) (hr0 : Kd.C (Kd.int .u8) w A0 l0.length l0) (hc0 : l0.length ≤ c0) (h : impl_rv.Peek0 k l0 = some (r1, r2, r3, r4)) :
    Calls Try.prog 14 #[.slice A0 l0.length c0, .int .i64 0] w fun e w' => (∃ (ver : Int) (Ad : Option Addr) (cd : Nat) (As : Option Addr) (cs : Nat) (vA : Option Addr) (vn vc : Nat) (n : Int), e = .returned (.tuple #[.agg #[.int .i64 r1, .int .i64 ver, .slice Ad r2 cd, .slice As r3 cs, .slice vA vn vc, .int .i64 0, .int .i64 0, .int .i64 0], .int .i64 n, .int .i64 r4])) ∧ Below w.heap.size w w' := by
  have huR := Try.underlying33
  have HR := Aside0.mk hr0
  have HC := Aside0.mk hc0
  clear hr0 hc0
  have HB := Aside0.mk (Below.refl w.heap.size w)
  unfold impl_rv.Peek0 at h
  by_cases c1 : 65536 < l0.length
  · rw [if_pos c1] at h
    simp only [Option.some.injEq, Prod.mk.injEq] at h
    obtain ⟨rfl, rfl, rfl, rfl⟩ := h
    have H0 := Aside0.mk (show impl_tooLong.f l0 = some true from by unfold impl_tooLong.f; rw [decide_eq_true (by omega)])
    clear c1
    go_enter Try.func14, Try.ntmps14
    go_wp2_with (first | ((with_reducible refine gate_dst (N := 4) rfl ?_); refine box_event ?hg (N := 4) ?hd (cs := #[.int .i64 0, .int .i64 0, .slice none 0 0, .slice none 0 0, .slice none 0 0, .int .i64 0, .int .i64 0, .int .i64 0]) (t := 33) ?hr ?_; (case hd => rfl); (case hg => rfl); (case hr => first | (go_simp; done) | (go_simp; rfl)); intro gr hg w3 hbox hb; have GE_BR := Aside0.mk (show w.heap.size ≤ gr from by rw [hg]; exact below_size (by repeat (first | (with_reducible first | exact HB.out | apply below_alloc | apply pw_below_drewN | apply below_drew1) | exact HB.out))); have m0_ := Aside0.mk (show Below w.heap.size w w3 from below_step (by repeat (first | (with_reducible first | exact HB.out | apply below_alloc | apply pw_below_drewN | apply below_drew1) | exact HB.out)) hb); have m1_ := Aside0.mk (show w3.heap[gr]? = some (.cells #[.int .i64 0, .int .i64 0, .slice none 0 0, .slice none 0 0, .slice none 0 0, .int .i64 0, .int .i64 0, .int .i64 0] 33 (0, 0)) from hbox); clear HB; have HB := m0_; have BR := m1_; clear m0_ m1_; clear hb hbox hg; have z1 : w3.cell? ⟨gr, 0, none⟩ = some (.int .i64 0) := (blk_cell BR.out 0).trans rfl; have zf2 := blk_frozen BR.out 0; have z3 : w3.cell? ⟨gr, 1, none⟩ = some (.int .i64 0) := (blk_cell BR.out 1).trans rfl; have zf4 := blk_frozen BR.out 1; have z5 : w3.cell? ⟨gr, 2, none⟩ = some (.slice none 0 0) := (blk_cell BR.out 2).trans rfl; have zf6 := blk_frozen BR.out 2; have z7 : w3.cell? ⟨gr, 3, none⟩ = some (.slice none 0 0) := (blk_cell BR.out 3).trans rfl; have zf8 := blk_frozen BR.out 3; have z9 : w3.cell? ⟨gr, 4, none⟩ = some (.slice none 0 0) := (blk_cell BR.out 4).trans rfl; have zf10 := blk_frozen BR.out 4; have z11 : w3.cell? ⟨gr, 5, none⟩ = some (.int .i64 0) := (blk_cell BR.out 5).trans rfl; have zf12 := blk_frozen BR.out 5; have z13 : w3.cell? ⟨gr, 6, none⟩ = some (.int .i64 0) := (blk_cell BR.out 6).trans rfl; have zf14 := blk_frozen BR.out 6; have z15 : w3.cell? ⟨gr, 7, none⟩ = some (.int .i64 0) := (blk_cell BR.out 7).trans rfl; have zf16 := blk_frozen BR.out 7) | (go_at_call 18; refine (impl_tooLong.calls A0 c0 l0 true _ (Kd.C_below HR.out (by repeat (first | (with_reducible first | exact HB.out | apply below_alloc | apply pw_below_drewN | apply below_drew1 | refine below_set ?_ GE_BR.out) | exact HB.out))) HC.out H0.out).mono ?_; rintro e w1 ⟨rfl, hd⟩; obtain ⟨m1, hm1⟩ := hd.out; subst hm1; clear hd))
    all_goals (refine bodyPost_ret (results_ctt rfl _ _ gr 33 #[.int .i64 0, .int .i64 0, .slice none 0 0, .slice none 0 0, .slice none 0 0, .int .i64 0, .int .i64 0, .int .i64 0] (0, 0) _ rfl (by (with_reducible repeat (first | refine blk_drewN ?_ _ | refine blk_drew ?_ | refine blk_alloc ?_ _)); refine blk_put (cs := #[.int .i64 0, .int .i64 0, .slice none 0 0, .slice none 0 0, .slice none 0 0, .int .i64 0, .int .i64 0, .int .i64 0]) ?_ 7 _ rfl; (with_reducible repeat (first | refine blk_drewN ?_ _ | refine blk_drew ?_ | refine blk_alloc ?_ _)); refine blk_put (cs := #[.int .i64 0, .int .i64 0, .slice none 0 0, .slice none 0 0, .slice none 0 0, .int .i64 0, .int .i64 0, .int .i64 0]) ?_ 6 _ rfl; (with_reducible repeat (first | refine blk_drewN ?_ _ | refine blk_drew ?_ | refine blk_alloc ?_ _)); refine blk_put (cs := #[.int .i64 0, .int .i64 0, .slice none 0 0, .slice none 0 0, .slice none 0 0, .int .i64 0, .int .i64 0, .int .i64 0]) ?_ 5 _ rfl; (with_reducible repeat (first | refine blk_drewN ?_ _ | refine blk_drew ?_ | refine blk_alloc ?_ _)); refine blk_put (cs := #[.int .i64 0, .int .i64 0, .slice none 0 0, .slice none 0 0, .slice none 0 0, .int .i64 0, .int .i64 0, .int .i64 0]) ?_ 4 _ rfl; (with_reducible repeat (first | refine blk_drewN ?_ _ | refine blk_drew ?_ | refine blk_alloc ?_ _)); refine blk_put (cs := #[.int .i64 0, .int .i64 0, .slice none 0 0, .slice none 0 0, .slice none 0 0, .int .i64 0, .int .i64 0, .int .i64 0]) ?_ 3 _ rfl; (with_reducible repeat (first | refine blk_drewN ?_ _ | refine blk_drew ?_ | refine blk_alloc ?_ _)); refine blk_put (cs := #[.int .i64 0, .int .i64 0, .slice none 0 0, .slice none 0 0, .slice none 0 0, .int .i64 0, .int .i64 0, .int .i64 0]) ?_ 2 _ rfl; (with_reducible repeat (first | refine blk_drewN ?_ _ | refine blk_drew ?_ | refine blk_alloc ?_ _)); refine blk_put (cs := #[.int .i64 0, .int .i64 0, .slice none 0 0, .slice none 0 0, .slice none 0 0, .int .i64 0, .int .i64 0, .int .i64 0]) ?_ 1 _ rfl; (with_reducible repeat (first | refine blk_drewN ?_ _ | refine blk_drew ?_ | refine blk_alloc ?_ _)); refine blk_put (cs := #[.int .i64 0, .int .i64 0, .slice none 0 0, .slice none 0 0, .slice none 0 0, .int .i64 0, .int .i64 0, .int .i64 0]) ?_ 0 _ rfl; (with_reducible repeat (first | refine blk_drewN ?_ _ | refine blk_drew ?_ | refine blk_alloc ?_ _)); exact BR.out) Try.underlying33 rfl (by kernel_rfl)) rfl ?_)
    all_goals (exact ⟨⟨0, none, 0, none, 0, none, 0, 0, _, rfl⟩, (by repeat (first | (with_reducible first | exact HB.out | apply below_alloc | apply pw_below_drewN | apply below_drew1 | refine below_set ?_ GE_BR.out) | exact HB.out))⟩)
  · rw [if_neg c1] at h
    have H0 := Aside0.mk (show impl_tooLong.f l0 = some false from by unfold impl_tooLong.f; rw [decide_eq_false (by omega)])
    have HL := Aside0.mk (show l0.length ≤ 65536 by omega)
    clear c1
    obtain ⟨⟨f, dl, sl, c⟩, h1, h⟩ := Option.bind_eq_some_iff.1 h
    have H1 := Aside0.mk h1
    dsimp only at h
    have H := Aside0.mk h
    clear h
    clear h1
    go_enter Try.func14, Try.ntmps14
    go_upto_region 6 with (first | ((with_reducible refine gate_dst (N := 4) rfl ?_); refine box_event ?hg (N := 4) ?hd (cs := #[.int .i64 0, .int .i64 0, .slice none 0 0, .slice none 0 0, .slice none 0 0, .int .i64 0, .int .i64 0, .int .i64 0]) (t := 33) ?hr ?_; (case hd => rfl); (case hg => rfl); (case hr => first | (go_simp; done) | (go_simp; rfl)); intro gr hg w3 hbox hb; have GE_BR := Aside0.mk (show w.heap.size ≤ gr from by rw [hg]; exact below_size (by repeat (first | (with_reducible first | exact HB.out | apply below_alloc | apply pw_below_drewN | apply below_drew1) | exact HB.out))); have m0_ := Aside0.mk (show Below w.heap.size w w3 from below_step (by repeat (first | (with_reducible first | exact HB.out | apply below_alloc | apply pw_below_drewN | apply below_drew1) | exact HB.out)) hb); have m1_ := Aside0.mk (show w3.heap[gr]? = some (.cells #[.int .i64 0, .int .i64 0, .slice none 0 0, .slice none 0 0, .slice none 0 0, .int .i64 0, .int .i64 0, .int .i64 0] 33 (0, 0)) from hbox); clear HB; have HB := m0_; have BR := m1_; clear m0_ m1_; clear hb hbox hg; have z1 : w3.cell? ⟨gr, 0, none⟩ = some (.int .i64 0) := (blk_cell BR.out 0).trans rfl; have zf2 := blk_frozen BR.out 0; have z3 : w3.cell? ⟨gr, 1, none⟩ = some (.int .i64 0) := (blk_cell BR.out 1).trans rfl; have zf4 := blk_frozen BR.out 1; have z5 : w3.cell? ⟨gr, 2, none⟩ = some (.slice none 0 0) := (blk_cell BR.out 2).trans rfl; have zf6 := blk_frozen BR.out 2; have z7 : w3.cell? ⟨gr, 3, none⟩ = some (.slice none 0 0) := (blk_cell BR.out 3).trans rfl; have zf8 := blk_frozen BR.out 3; have z9 : w3.cell? ⟨gr, 4, none⟩ = some (.slice none 0 0) := (blk_cell BR.out 4).trans rfl; have zf10 := blk_frozen BR.out 4; have z11 : w3.cell? ⟨gr, 5, none⟩ = some (.int .i64 0) := (blk_cell BR.out 5).trans rfl; have zf12 := blk_frozen BR.out 5; have z13 : w3.cell? ⟨gr, 6, none⟩ = some (.int .i64 0) := (blk_cell BR.out 6).trans rfl; have zf14 := blk_frozen BR.out 6; have z15 : w3.cell? ⟨gr, 7, none⟩ = some (.int .i64 0) := (blk_cell BR.out 7).trans rfl; have zf16 := blk_frozen BR.out 7) | (go_at_call 18; refine (impl_tooLong.calls A0 c0 l0 false _ (Kd.C_below HR.out (by repeat (first | (with_reducible first | exact HB.out | apply below_alloc | apply pw_below_drewN | apply below_drew1 | refine below_set ?_ GE_BR.out) | exact HB.out))) HC.out H0.out).mono ?_; rintro e w1 ⟨rfl, hd⟩; obtain ⟨m1, hm1⟩ := hd.out; subst hm1; clear hd) | (go_at_call 19; refine (impl_rv.peek_calls k A0 c0 l0 f dl sl c _ ⟨(Kd.C_below HR.out (by repeat (first | (with_reducible first | exact HB.out | apply below_alloc | apply pw_below_drewN | apply below_drew1 | refine below_set ?_ GE_BR.out) | exact HB.out))), HC.out, HL.out⟩ H1.out).mono ?_; rintro e w5 ⟨⟨ver, Ad, cd, As, cs, vA, vn, vc, n, num, rfl⟩, hb⟩; have m0_ := Aside0.mk (show Below w.heap.size w w5 from below_step (by repeat (first | (with_reducible first | exact HB.out | apply below_alloc | apply pw_below_drewN | apply below_drew1 | refine below_set ?_ GE_BR.out) | exact HB.out)) hb); have m1_ := Aside0.mk (show w5.heap[gr]? = some (.cells #[.int .i64 0, .int .i64 0, .slice none 0 0, .slice none 0 0, .slice none 0 0, .int .i64 0, .int .i64 0, .int .i64 0] 33 (0, 0)) from blk_below (g := gr) (o := .cells #[.int .i64 0, .int .i64 0, .slice none 0 0, .slice none 0 0, .slice none 0 0, .int .i64 0, .int .i64 0, .int .i64 0] 33 (0, 0)) (by (with_reducible repeat (first | refine blk_drewN ?_ _ | refine blk_drew ?_ | refine blk_alloc ?_ _)); exact BR.out) hb); clear HB; clear BR; have HB := m0_; have BR := m1_; clear m0_ m1_; clear hb; have z17 : w5.cell? ⟨gr, 0, none⟩ = some (.int .i64 0) := (blk_cell BR.out 0).trans rfl; have zf18 := blk_frozen BR.out 0; have z19 : w5.cell? ⟨gr, 1, none⟩ = some (.int .i64 0) := (blk_cell BR.out 1).trans rfl; have zf20 := blk_frozen BR.out 1; have z21 : w5.cell? ⟨gr, 2, none⟩ = some (.slice none 0 0) := (blk_cell BR.out 2).trans rfl; have zf22 := blk_frozen BR.out 2; have z23 : w5.cell? ⟨gr, 3, none⟩ = some (.slice none 0 0) := (blk_cell BR.out 3).trans rfl; have zf24 := blk_frozen BR.out 3; have z25 : w5.cell? ⟨gr, 4, none⟩ = some (.slice none 0 0) := (blk_cell BR.out 4).trans rfl; have zf26 := blk_frozen BR.out 4; have z27 : w5.cell? ⟨gr, 5, none⟩ = some (.int .i64 0) := (blk_cell BR.out 5).trans rfl; have zf28 := blk_frozen BR.out 5; have z29 : w5.cell? ⟨gr, 6, none⟩ = some (.int .i64 0) := (blk_cell BR.out 6).trans rfl; have zf30 := blk_frozen BR.out 6; have z31 : w5.cell? ⟨gr, 7, none⟩ = some (.int .i64 0) := (blk_cell BR.out 7).trans rfl; have zf32 := blk_frozen BR.out 7) | ((with_reducible refine gate_dst (N := 7) rfl ?_); refine box_event ?hg (N := 7) ?hd (cs := #[.int .i64 0, .int .i64 0, .slice none 0 0, .slice none 0 0, .slice none 0 0, .int .i64 0, .int .i64 0, .int .i64 0]) (t := 33) ?hr ?_; (case hd => rfl); (case hg => rfl); (case hr => first | (go_simp; done) | (go_simp; rfl)); intro gh hg w8 hbox hb; have GE_BF := Aside0.mk (show w.heap.size ≤ gh from by rw [hg]; exact below_size (by repeat (first | (with_reducible first | exact HB.out | apply below_alloc | apply pw_below_drewN | apply below_drew1 | refine below_set ?_ GE_BR.out) | exact HB.out))); have NE_BR_BF := Aside0.mk (show gr ≠ gh from by rw [hg]; exact Nat.ne_of_lt (blk_lt (show (_ : World).heap[gr]? = some (.cells #[.int .i64 0, .int .i64 0, .slice none 0 0, .slice none 0 0, .slice none 0 0, .int .i64 0, .int .i64 0, .int .i64 0] 33 (0, 0)) from (by (with_reducible repeat (first | refine blk_drewN ?_ _ | refine blk_drew ?_ | refine blk_alloc ?_ _)); exact BR.out)))); have NE_BF_BR := Aside0.mk (NE_BR_BF.out.symm); have m0_ := Aside0.mk (show Below w.heap.size w w8 from below_step (by repeat (first | (with_reducible first | exact HB.out | apply below_alloc | apply pw_below_drewN | apply below_drew1 | refine below_set ?_ GE_BR.out) | exact HB.out)) hb); have m1_ := Aside0.mk (show w8.heap[gr]? = some (.cells #[.int .i64 0, .int .i64 0, .slice none 0 0, .slice none 0 0, .slice none 0 0, .int .i64 0, .int .i64 0, .int .i64 0] 33 (0, 0)) from blk_below (g := gr) (o := .cells #[.int .i64 0, .int .i64 0, .slice none 0 0, .slice none 0 0, .slice none 0 0, .int .i64 0, .int .i64 0, .int .i64 0] 33 (0, 0)) (by (with_reducible repeat (first | refine blk_drewN ?_ _ | refine blk_drew ?_ | refine blk_alloc ?_ _)); exact BR.out) hb); have m2_ := Aside0.mk (show w8.heap[gh]? = some (.cells #[.int .i64 0, .int .i64 0, .slice none 0 0, .slice none 0 0, .slice none 0 0, .int .i64 0, .int .i64 0, .int .i64 0] 33 (0, 0)) from hbox); clear HB; clear BR; have HB := m0_; have BR := m1_; have BF := m2_; clear m0_ m1_ m2_; clear hb hbox hg; have z33 : w8.cell? ⟨gr, 0, none⟩ = some (.int .i64 0) := (blk_cell BR.out 0).trans rfl; have zf34 := blk_frozen BR.out 0; have z35 : w8.cell? ⟨gr, 1, none⟩ = some (.int .i64 0) := (blk_cell BR.out 1).trans rfl; have zf36 := blk_frozen BR.out 1; have z37 : w8.cell? ⟨gr, 2, none⟩ = some (.slice none 0 0) := (blk_cell BR.out 2).trans rfl; have zf38 := blk_frozen BR.out 2; have z39 : w8.cell? ⟨gr, 3, none⟩ = some (.slice none 0 0) := (blk_cell BR.out 3).trans rfl; have zf40 := blk_frozen BR.out 3; have z41 : w8.cell? ⟨gr, 4, none⟩ = some (.slice none 0 0) := (blk_cell BR.out 4).trans rfl; have zf42 := blk_frozen BR.out 4; have z43 : w8.cell? ⟨gr, 5, none⟩ = some (.int .i64 0) := (blk_cell BR.out 5).trans rfl; have zf44 := blk_frozen BR.out 5; have z45 : w8.cell? ⟨gr, 6, none⟩ = some (.int .i64 0) := (blk_cell BR.out 6).trans rfl; have zf46 := blk_frozen BR.out 6; have z47 : w8.cell? ⟨gr, 7, none⟩ = some (.int .i64 0) := (blk_cell BR.out 7).trans rfl; have zf48 := blk_frozen BR.out 7; have z49 : w8.cell? ⟨gh, 0, none⟩ = some (.int .i64 0) := (blk_cell BF.out 0).trans rfl; have zf50 := blk_frozen BF.out 0; have z51 : w8.cell? ⟨gh, 1, none⟩ = some (.int .i64 0) := (blk_cell BF.out 1).trans rfl; have zf52 := blk_frozen BF.out 1; have z53 : w8.cell? ⟨gh, 2, none⟩ = some (.slice none 0 0) := (blk_cell BF.out 2).trans rfl; have zf54 := blk_frozen BF.out 2; have z55 : w8.cell? ⟨gh, 3, none⟩ = some (.slice none 0 0) := (blk_cell BF.out 3).trans rfl; have zf56 := blk_frozen BF.out 3; have z57 : w8.cell? ⟨gh, 4, none⟩ = some (.slice none 0 0) := (blk_cell BF.out 4).trans rfl; have zf58 := blk_frozen BF.out 4; have z59 : w8.cell? ⟨gh, 5, none⟩ = some (.int .i64 0) := (blk_cell BF.out 5).trans rfl; have zf60 := blk_frozen BF.out 5; have z61 : w8.cell? ⟨gh, 6, none⟩ = some (.int .i64 0) := (blk_cell BF.out 6).trans rfl; have zf62 := blk_frozen BF.out 6; have z63 : w8.cell? ⟨gh, 7, none⟩ = some (.int .i64 0) := (blk_cell BF.out 7).trans rfl; have zf64 := blk_frozen BF.out 7))
    clear z1 zf2 z3 zf4 z5 zf6 z7 zf8 z9 zf10 z11 zf12 z13 zf14 z15 zf16 z17 zf18 z19 zf20 z21 zf22 z23 zf24 z25 zf26 z27 zf28 z29 zf30 z31 zf32 z33 zf34 z35 zf36 z37 zf38 z39 zf40 z41 zf42 z43 zf44 z45 zf46 z47 zf48 z49 zf50 z51 zf52 z53 zf54 z55 zf56 z57 zf58 z59 zf60 z61 zf62 z63 zf64
    refine impl_rv.cwp_seal (fun W_ => Below w.heap.size w W_ ∧ W_.heap[gr]? = some (.cells #[.int .i64 0, .int .i64 0, .slice none 0 0, .slice none 0 0, .slice none 0 0, .int .i64 0, .int .i64 0, .int .i64 0] 33 (0, 0)) ∧ W_.heap[gh]? = some (.cells #[.int .i64 f, .int .i64 ver, .slice Ad dl cd, .slice As sl cs, .slice vA vn vc, .int .i64 0, .int .i64 0, .int .i64 0] 33 (0, 0))) ⟨(by repeat (first | (with_reducible first | exact HB.out | apply below_alloc | apply pw_below_drewN | apply below_drew1 | refine below_set ?_ GE_BR.out | refine below_set ?_ GE_BF.out) | exact HB.out)), (by (with_reducible repeat (first | refine blk_drewN ?_ _ | refine blk_drew ?_ | refine blk_alloc ?_ _ | refine blk_far ?_ NE_BR_BF.out _)); exact BR.out), (by (with_reducible repeat (first | refine blk_drewN ?_ _ | refine blk_drew ?_ | refine blk_alloc ?_ _)); refine blk_put (cs := #[.int .i64 f, .int .i64 ver, .slice Ad dl cd, .slice As sl cs, .slice vA vn vc, .int .i64 0, .int .i64 0, .int .i64 0]) ?_ 7 _ rfl; (with_reducible repeat (first | refine blk_drewN ?_ _ | refine blk_drew ?_ | refine blk_alloc ?_ _)); refine blk_put (cs := #[.int .i64 f, .int .i64 ver, .slice Ad dl cd, .slice As sl cs, .slice vA vn vc, .int .i64 0, .int .i64 0, .int .i64 0]) ?_ 6 _ rfl; (with_reducible repeat (first | refine blk_drewN ?_ _ | refine blk_drew ?_ | refine blk_alloc ?_ _)); refine blk_put (cs := #[.int .i64 f, .int .i64 ver, .slice Ad dl cd, .slice As sl cs, .slice vA vn vc, .int .i64 0, .int .i64 0, .int .i64 0]) ?_ 5 _ rfl; (with_reducible repeat (first | refine blk_drewN ?_ _ | refine blk_drew ?_ | refine blk_alloc ?_ _)); refine blk_put (cs := #[.int .i64 f, .int .i64 ver, .slice Ad dl cd, .slice As sl cs, .slice none 0 0, .int .i64 0, .int .i64 0, .int .i64 0]) ?_ 4 _ rfl; (with_reducible repeat (first | refine blk_drewN ?_ _ | refine blk_drew ?_ | refine blk_alloc ?_ _)); refine blk_put (cs := #[.int .i64 f, .int .i64 ver, .slice Ad dl cd, .slice none 0 0, .slice none 0 0, .int .i64 0, .int .i64 0, .int .i64 0]) ?_ 3 _ rfl; (with_reducible repeat (first | refine blk_drewN ?_ _ | refine blk_drew ?_ | refine blk_alloc ?_ _)); refine blk_put (cs := #[.int .i64 f, .int .i64 ver, .slice none 0 0, .slice none 0 0, .slice none 0 0, .int .i64 0, .int .i64 0, .int .i64 0]) ?_ 2 _ rfl; (with_reducible repeat (first | refine blk_drewN ?_ _ | refine blk_drew ?_ | refine blk_alloc ?_ _)); refine blk_put (cs := #[.int .i64 f, .int .i64 0, .slice none 0 0, .slice none 0 0, .slice none 0 0, .int .i64 0, .int .i64 0, .int .i64 0]) ?_ 1 _ rfl; (with_reducible repeat (first | refine blk_drewN ?_ _ | refine blk_drew ?_ | refine blk_alloc ?_ _)); refine blk_put (cs := #[.int .i64 0, .int .i64 0, .slice none 0 0, .slice none 0 0, .slice none 0 0, .int .i64 0, .int .i64 0, .int .i64 0]) ?_ 0 _ rfl; (with_reducible repeat (first | refine blk_drewN ?_ _ | refine blk_drew ?_ | refine blk_alloc ?_ _)); exact BF.out)⟩ ?_
    clear HB BR BF
    rintro w9 ⟨h0_, h1_, h2_⟩
    have HB := Aside0.mk h0_
    have BR := Aside0.mk h1_
    have BF := Aside0.mk h2_
    clear h0_ h1_ h2_
    have z65 : w9.cell? ⟨gr, 0, none⟩ = some (.int .i64 0) := (blk_cell BR.out 0).trans rfl
    have zf66 := blk_frozen BR.out 0
    have z67 : w9.cell? ⟨gr, 1, none⟩ = some (.int .i64 0) := (blk_cell BR.out 1).trans rfl
    have zf68 := blk_frozen BR.out 1
    have z69 : w9.cell? ⟨gr, 2, none⟩ = some (.slice none 0 0) := (blk_cell BR.out 2).trans rfl
    have zf70 := blk_frozen BR.out 2
    have z71 : w9.cell? ⟨gr, 3, none⟩ = some (.slice none 0 0) := (blk_cell BR.out 3).trans rfl
    have zf72 := blk_frozen BR.out 3
    have z73 : w9.cell? ⟨gr, 4, none⟩ = some (.slice none 0 0) := (blk_cell BR.out 4).trans rfl
    have zf74 := blk_frozen BR.out 4
    have z75 : w9.cell? ⟨gr, 5, none⟩ = some (.int .i64 0) := (blk_cell BR.out 5).trans rfl
    have zf76 := blk_frozen BR.out 5
    have z77 : w9.cell? ⟨gr, 6, none⟩ = some (.int .i64 0) := (blk_cell BR.out 6).trans rfl
    have zf78 := blk_frozen BR.out 6
    have z79 : w9.cell? ⟨gr, 7, none⟩ = some (.int .i64 0) := (blk_cell BR.out 7).trans rfl
    have zf80 := blk_frozen BR.out 7
    have z81 : w9.cell? ⟨gh, 0, none⟩ = some (.int .i64 f) := (blk_cell BF.out 0).trans rfl
    have zf82 := blk_frozen BF.out 0
    have z83 : w9.cell? ⟨gh, 1, none⟩ = some (.int .i64 ver) := (blk_cell BF.out 1).trans rfl
    have zf84 := blk_frozen BF.out 1
    have z85 : w9.cell? ⟨gh, 2, none⟩ = some (.slice Ad dl cd) := (blk_cell BF.out 2).trans rfl
    have zf86 := blk_frozen BF.out 2
    have z87 : w9.cell? ⟨gh, 3, none⟩ = some (.slice As sl cs) := (blk_cell BF.out 3).trans rfl
    have zf88 := blk_frozen BF.out 3
    have z89 : w9.cell? ⟨gh, 4, none⟩ = some (.slice vA vn vc) := (blk_cell BF.out 4).trans rfl
    have zf90 := blk_frozen BF.out 4
    have z91 : w9.cell? ⟨gh, 5, none⟩ = some (.int .i64 0) := (blk_cell BF.out 5).trans rfl
    have zf92 := blk_frozen BF.out 5
    have z93 : w9.cell? ⟨gh, 6, none⟩ = some (.int .i64 0) := (blk_cell BF.out 6).trans rfl
    have zf94 := blk_frozen BF.out 6
    have z95 : w9.cell? ⟨gh, 7, none⟩ = some (.int .i64 0) := (blk_cell BF.out 7).trans rfl
    have zf96 := blk_frozen BF.out 7
    have h := H.out
    clear H
    have ne1 : gh ≠ gr := NE_BF_BR.out
    have ne2 : gr ≠ gh := NE_BR_BF.out
    by_cases c2 : c = 0
    · have q2 : (c != 0) = false := by rw [c2]; rfl
      rw [if_pos c2] at h
      clear c2
      simp only [Option.some.injEq, Prod.mk.injEq] at h
      obtain ⟨rfl, rfl, rfl, rfl⟩ := h
      go_wp2
      try (go_region; all_goals go_wp2)
      all_goals (refine bodyPost_ret (results_ctt rfl _ _ gr 33 #[.int .i64 f, .int .i64 ver, .slice Ad dl cd, .slice As sl cs, .slice vA vn vc, .int .i64 0, .int .i64 0, .int .i64 0] (0, 0) _ rfl (by (with_reducible repeat (first | refine blk_drewN ?_ _ | refine blk_drew ?_ | refine blk_alloc ?_ _)); refine blk_put (cs := #[.int .i64 f, .int .i64 ver, .slice Ad dl cd, .slice As sl cs, .slice vA vn vc, .int .i64 0, .int .i64 0, .int .i64 0]) ?_ 7 _ rfl; (with_reducible repeat (first | refine blk_drewN ?_ _ | refine blk_drew ?_ | refine blk_alloc ?_ _)); refine blk_put (cs := #[.int .i64 f, .int .i64 ver, .slice Ad dl cd, .slice As sl cs, .slice vA vn vc, .int .i64 0, .int .i64 0, .int .i64 0]) ?_ 6 _ rfl; (with_reducible repeat (first | refine blk_drewN ?_ _ | refine blk_drew ?_ | refine blk_alloc ?_ _)); refine blk_put (cs := #[.int .i64 f, .int .i64 ver, .slice Ad dl cd, .slice As sl cs, .slice vA vn vc, .int .i64 0, .int .i64 0, .int .i64 0]) ?_ 5 _ rfl; (with_reducible repeat (first | refine blk_drewN ?_ _ | refine blk_drew ?_ | refine blk_alloc ?_ _)); refine blk_put (cs := #[.int .i64 f, .int .i64 ver, .slice Ad dl cd, .slice As sl cs, .slice none 0 0, .int .i64 0, .int .i64 0, .int .i64 0]) ?_ 4 _ rfl; (with_reducible repeat (first | refine blk_drewN ?_ _ | refine blk_drew ?_ | refine blk_alloc ?_ _)); refine blk_put (cs := #[.int .i64 f, .int .i64 ver, .slice Ad dl cd, .slice none 0 0, .slice none 0 0, .int .i64 0, .int .i64 0, .int .i64 0]) ?_ 3 _ rfl; (with_reducible repeat (first | refine blk_drewN ?_ _ | refine blk_drew ?_ | refine blk_alloc ?_ _)); refine blk_put (cs := #[.int .i64 f, .int .i64 ver, .slice none 0 0, .slice none 0 0, .slice none 0 0, .int .i64 0, .int .i64 0, .int .i64 0]) ?_ 2 _ rfl; (with_reducible repeat (first | refine blk_drewN ?_ _ | refine blk_drew ?_ | refine blk_alloc ?_ _)); refine blk_put (cs := #[.int .i64 f, .int .i64 0, .slice none 0 0, .slice none 0 0, .slice none 0 0, .int .i64 0, .int .i64 0, .int .i64 0]) ?_ 1 _ rfl; (with_reducible repeat (first | refine blk_drewN ?_ _ | refine blk_drew ?_ | refine blk_alloc ?_ _)); refine blk_put (cs := #[.int .i64 0, .int .i64 0, .slice none 0 0, .slice none 0 0, .slice none 0 0, .int .i64 0, .int .i64 0, .int .i64 0]) ?_ 0 _ rfl; (with_reducible repeat (first | refine blk_drewN ?_ _ | refine blk_drew ?_ | refine blk_alloc ?_ _)); exact BR.out) Try.underlying33 rfl (by kernel_rfl)) rfl ?_)
      all_goals (exact ⟨⟨ver, Ad, cd, As, cs, vA, vn, vc, _, rfl⟩, (by repeat (first | (with_reducible first | exact HB.out | apply below_alloc | apply pw_below_drewN | apply below_drew1 | refine below_set ?_ GE_BR.out | refine below_set ?_ GE_BF.out) | exact HB.out))⟩)
    · have q2 : (c != 0) = true := bne_iff_ne.2 c2
      rw [if_neg c2] at h
      clear c2
      simp only [Option.some.injEq, Prod.mk.injEq] at h
      obtain ⟨rfl, rfl, rfl, rfl⟩ := h
      go_wp2
      try (go_region; all_goals go_wp2)
      all_goals (refine bodyPost_ret (results_ctt rfl _ _ gr 33 #[.int .i64 0, .int .i64 0, .slice none 0 0, .slice none 0 0, .slice none 0 0, .int .i64 0, .int .i64 0, .int .i64 0] (0, 0) _ rfl (by (with_reducible repeat (first | refine blk_drewN ?_ _ | refine blk_drew ?_ | refine blk_alloc ?_ _)); refine blk_put (cs := #[.int .i64 0, .int .i64 0, .slice none 0 0, .slice none 0 0, .slice none 0 0, .int .i64 0, .int .i64 0, .int .i64 0]) ?_ 7 _ rfl; (with_reducible repeat (first | refine blk_drewN ?_ _ | refine blk_drew ?_ | refine blk_alloc ?_ _)); refine blk_put (cs := #[.int .i64 0, .int .i64 0, .slice none 0 0, .slice none 0 0, .slice none 0 0, .int .i64 0, .int .i64 0, .int .i64 0]) ?_ 6 _ rfl; (with_reducible repeat (first | refine blk_drewN ?_ _ | refine blk_drew ?_ | refine blk_alloc ?_ _)); refine blk_put (cs := #[.int .i64 0, .int .i64 0, .slice none 0 0, .slice none 0 0, .slice none 0 0, .int .i64 0, .int .i64 0, .int .i64 0]) ?_ 5 _ rfl; (with_reducible repeat (first | refine blk_drewN ?_ _ | refine blk_drew ?_ | refine blk_alloc ?_ _)); refine blk_put (cs := #[.int .i64 0, .int .i64 0, .slice none 0 0, .slice none 0 0, .slice none 0 0, .int .i64 0, .int .i64 0, .int .i64 0]) ?_ 4 _ rfl; (with_reducible repeat (first | refine blk_drewN ?_ _ | refine blk_drew ?_ | refine blk_alloc ?_ _)); refine blk_put (cs := #[.int .i64 0, .int .i64 0, .slice none 0 0, .slice none 0 0, .slice none 0 0, .int .i64 0, .int .i64 0, .int .i64 0]) ?_ 3 _ rfl; (with_reducible repeat (first | refine blk_drewN ?_ _ | refine blk_drew ?_ | refine blk_alloc ?_ _)); refine blk_put (cs := #[.int .i64 0, .int .i64 0, .slice none 0 0, .slice none 0 0, .slice none 0 0, .int .i64 0, .int .i64 0, .int .i64 0]) ?_ 2 _ rfl; (with_reducible repeat (first | refine blk_drewN ?_ _ | refine blk_drew ?_ | refine blk_alloc ?_ _)); refine blk_put (cs := #[.int .i64 0, .int .i64 0, .slice none 0 0, .slice none 0 0, .slice none 0 0, .int .i64 0, .int .i64 0, .int .i64 0]) ?_ 1 _ rfl; (with_reducible repeat (first | refine blk_drewN ?_ _ | refine blk_drew ?_ | refine blk_alloc ?_ _)); refine blk_put (cs := #[.int .i64 0, .int .i64 0, .slice none 0 0, .slice none 0 0, .slice none 0 0, .int .i64 0, .int .i64 0, .int .i64 0]) ?_ 0 _ rfl; (with_reducible repeat (first | refine blk_drewN ?_ _ | refine blk_drew ?_ | refine blk_alloc ?_ _)); exact BR.out) Try.underlying33 rfl (by kernel_rfl)) rfl ?_)
      all_goals (exact ⟨⟨0, none, 0, none, 0, none, 0, 0, _, rfl⟩, (by repeat (first | (with_reducible first | exact HB.out | apply below_alloc | apply pw_below_drewN | apply below_drew1 | refine below_set ?_ GE_BR.out | refine below_set ?_ GE_BF.out) | exact HB.out))⟩)

def impl_ReadVersions.f (k : Nat) (l : List Int) : Option (List Int × Int) :=
  (impl_rv.Peek0 k l).bind fun r => if r.2.2.2 = 0 then (if r.1 = 5 then (if 7 + r.2.1 + r.2.2.1 ≤ l.length then (impl_versionsOf.f k (l.drop (7 + r.2.1 + r.2.2.1))).bind fun t => some (t.1, 0) else none) else some ([], 3)) else some ([], r.2.2.2)
theorem impl_rv.num_mono (k : Nat) (l : List Int) (a c) : LeO (impl_rv.num k l a c) (impl_rv.num (k + 1) l a c) := by
  unfold impl_rv.num
  exact LeO.ite (LeO.bind (impl_GetVar.mono _ _ _) (fun _ => LeO.refl _)) (LeO.refl _)
theorem impl_rv.mid_mono (k : Nat) (l : List Int) (q a) : LeO (impl_rv.mid k l q a) (impl_rv.mid (k + 1) l q a) := by
  unfold impl_rv.mid
  exact LeO.ite (LeO.refl _) (LeO.bind (impl_rv.num_mono _ _ _ _) (fun _ => LeO.refl _))
theorem impl_rv.rest3_mono (k : Nat) (l : List Int) (f d s a c) : LeO (impl_rv.rest3 k l f d s a c) (impl_rv.rest3 (k + 1) l f d s a c) := by
  unfold impl_rv.rest3
  exact LeO.bind (impl_rv.num_mono _ _ _ _) (fun _ => LeO.refl _)
theorem impl_rv.rest2_mono (k : Nat) (l : List Int) (b v d s a c) : LeO (impl_rv.rest2 k l b v d s a c) (impl_rv.rest2 (k + 1) l b v d s a c) := by
  unfold impl_rv.rest2
  exact LeO.ite (LeO.ite (LeO.ite (LeO.bind (impl_versionsOf.mono _ _) (fun _ => LeO.refl _)) (LeO.ite (LeO.refl _) (LeO.ite (LeO.refl _) (LeO.bind (impl_rv.mid_mono _ _ _ _) (fun _ => impl_rv.rest3_mono _ _ _ _ _ _ _))))) (LeO.refl _)) (LeO.refl _)
theorem impl_rv.rest1_mono (k : Nat) (l : List Int) (b a c) : LeO (impl_rv.rest1 k l b a c) (impl_rv.rest1 (k + 1) l b a c) := by
  unfold impl_rv.rest1
  exact LeO.bind (LeO.refl _) (fun _ => LeO.bind (impl_unfixed.mono _ _) (fun _ => LeO.bind (LeO.refl _) (fun _ => LeO.bind (LeO.refl _) (fun _ => impl_rv.rest2_mono _ _ _ _ _ _ _ _))))
theorem impl_rv.peek_mono (k : Nat) (l : List Int) : LeO (impl_rv.peek k l) (impl_rv.peek (k + 1) l) := by
  unfold impl_rv.peek
  exact LeO.bind (LeO.refl _) (fun _ => LeO.ite (LeO.refl _) (impl_rv.rest1_mono _ _ _ _ _))
theorem impl_ReadVersions.mono : ∀ a0 k, LeO (impl_ReadVersions.f k a0) (impl_ReadVersions.f (k + 1) a0) := by
  intro a0 k
  unfold impl_ReadVersions.f
  refine LeO.bind ?_ (fun _ => LeO.ite (LeO.ite (LeO.ite (LeO.bind (impl_versionsOf.mono _ _) (fun _ => LeO.refl _)) (LeO.refl _)) (LeO.refl _)) (LeO.refl _))
  unfold impl_rv.Peek0
  exact LeO.ite (LeO.refl _) (LeO.bind (impl_rv.peek_mono _ _) (fun _ => LeO.refl _))
set_option maxHeartbeats 8000000 in
set_option maxRecDepth 100000 in
theorem impl_ReadVersions.calls (k : Nat) (A0 : Option Addr) (c0 : Nat) (l0 : List Int) (r1 : List Int) (r2 : Int) (w : World) (hr0 : Kd.C (Kd.int .u8) w A0 l0.length l0) (hc0 : l0.length ≤ c0) (h : impl_ReadVersions.f k l0 = some (r1, r2)) :
    Calls Try.prog 6 #[.slice A0 l0.length c0] w fun e w' => ∃ v0_ : Value, e = .returned (.tuple #[v0_, .int .i64 r2]) ∧ Kd.R (Kd.int .i64) 3 w' w.heap.size (fun _ => True) v0_ r1 ∧ Below w.heap.size w w' := by
  have huR := Try.underlying33
  have HR := Aside0.mk hr0
  have HC := Aside0.mk hc0
  clear hr0 hc0
  have HB := Aside0.mk (Below.refl w.heap.size w)
  unfold impl_ReadVersions.f at h
  obtain ⟨⟨f, dl, sl, c⟩, h1, h⟩ := Option.bind_eq_some_iff.1 h
  have H1 := Aside0.mk h1
  have HL0 := impl_rv.Peek0_len h1
  dsimp only at h
  have H := Aside0.mk h
  clear h1 h
  go_enter Try.func6, Try.ntmps6
  go_upto_region 2 with (first | (go_at_call 14; refine (impl_rv.Peek_calls k A0 c0 l0 f dl sl c _ (Kd.C_below HR.out (by repeat (first | (with_reducible first | exact HB.out | apply below_alloc | apply pw_below_drewN | apply below_drew1) | exact HB.out))) HC.out H1.out).mono ?_; rintro e w5 ⟨⟨ver, Ad, cd, As, cs, vA, vn, vc, n, rfl⟩, hb⟩; have m0_ := Aside0.mk (show Below w.heap.size w w5 from below_step (by repeat (first | (with_reducible first | exact HB.out | apply below_alloc | apply pw_below_drewN | apply below_drew1) | exact HB.out)) hb); clear HB; have HB := m0_; clear m0_; clear hb) | ((with_reducible refine gate_dst (N := 4) rfl ?_); refine box_event ?hg (N := 4) ?hd (cs := #[.int .i64 0, .int .i64 0, .slice none 0 0, .slice none 0 0, .slice none 0 0, .int .i64 0, .int .i64 0, .int .i64 0]) (t := 33) ?hr ?_; (case hd => rfl); (case hg => rfl); (case hr => first | (go_simp; done) | (go_simp; rfl)); intro gh hg w8 hbox hb; have GE_BF := Aside0.mk (show w.heap.size ≤ gh from by rw [hg]; exact below_size (by repeat (first | (with_reducible first | exact HB.out | apply below_alloc | apply pw_below_drewN | apply below_drew1) | exact HB.out))); have m0_ := Aside0.mk (show Below w.heap.size w w8 from below_step (by repeat (first | (with_reducible first | exact HB.out | apply below_alloc | apply pw_below_drewN | apply below_drew1) | exact HB.out)) hb); have m1_ := Aside0.mk (show w8.heap[gh]? = some (.cells #[.int .i64 0, .int .i64 0, .slice none 0 0, .slice none 0 0, .slice none 0 0, .int .i64 0, .int .i64 0, .int .i64 0] 33 (0, 0)) from hbox); clear HB; have HB := m0_; have BF := m1_; clear m0_ m1_; clear hb hbox hg; have z1 : w8.cell? ⟨gh, 0, none⟩ = some (.int .i64 0) := (blk_cell BF.out 0).trans rfl; have zf2 := blk_frozen BF.out 0; have z3 : w8.cell? ⟨gh, 1, none⟩ = some (.int .i64 0) := (blk_cell BF.out 1).trans rfl; have zf4 := blk_frozen BF.out 1; have z5 : w8.cell? ⟨gh, 2, none⟩ = some (.slice none 0 0) := (blk_cell BF.out 2).trans rfl; have zf6 := blk_frozen BF.out 2; have z7 : w8.cell? ⟨gh, 3, none⟩ = some (.slice none 0 0) := (blk_cell BF.out 3).trans rfl; have zf8 := blk_frozen BF.out 3; have z9 : w8.cell? ⟨gh, 4, none⟩ = some (.slice none 0 0) := (blk_cell BF.out 4).trans rfl; have zf10 := blk_frozen BF.out 4; have z11 : w8.cell? ⟨gh, 5, none⟩ = some (.int .i64 0) := (blk_cell BF.out 5).trans rfl; have zf12 := blk_frozen BF.out 5; have z13 : w8.cell? ⟨gh, 6, none⟩ = some (.int .i64 0) := (blk_cell BF.out 6).trans rfl; have zf14 := blk_frozen BF.out 6; have z15 : w8.cell? ⟨gh, 7, none⟩ = some (.int .i64 0) := (blk_cell BF.out 7).trans rfl; have zf16 := blk_frozen BF.out 7))
  clear z1 zf2 z3 zf4 z5 zf6 z7 zf8 z9 zf10 z11 zf12 z13 zf14 z15 zf16
  refine impl_rv.cwp_seal (fun W_ => Below w.heap.size w W_ ∧ W_.heap[gh]? = some (.cells #[.int .i64 f, .int .i64 ver, .slice Ad dl cd, .slice As sl cs, .slice vA vn vc, .int .i64 0, .int .i64 0, .int .i64 0] 33 (0, 0))) ⟨(by repeat (first | (with_reducible first | exact HB.out | apply below_alloc | apply pw_below_drewN | apply below_drew1 | refine below_set ?_ GE_BF.out) | exact HB.out)), (by (with_reducible repeat (first | refine blk_drewN ?_ _ | refine blk_drew ?_ | refine blk_alloc ?_ _)); refine blk_put (cs := #[.int .i64 f, .int .i64 ver, .slice Ad dl cd, .slice As sl cs, .slice vA vn vc, .int .i64 0, .int .i64 0, .int .i64 0]) ?_ 7 _ rfl; (with_reducible repeat (first | refine blk_drewN ?_ _ | refine blk_drew ?_ | refine blk_alloc ?_ _)); refine blk_put (cs := #[.int .i64 f, .int .i64 ver, .slice Ad dl cd, .slice As sl cs, .slice vA vn vc, .int .i64 0, .int .i64 0, .int .i64 0]) ?_ 6 _ rfl; (with_reducible repeat (first | refine blk_drewN ?_ _ | refine blk_drew ?_ | refine blk_alloc ?_ _)); refine blk_put (cs := #[.int .i64 f, .int .i64 ver, .slice Ad dl cd, .slice As sl cs, .slice vA vn vc, .int .i64 0, .int .i64 0, .int .i64 0]) ?_ 5 _ rfl; (with_reducible repeat (first | refine blk_drewN ?_ _ | refine blk_drew ?_ | refine blk_alloc ?_ _)); refine blk_put (cs := #[.int .i64 f, .int .i64 ver, .slice Ad dl cd, .slice As sl cs, .slice none 0 0, .int .i64 0, .int .i64 0, .int .i64 0]) ?_ 4 _ rfl; (with_reducible repeat (first | refine blk_drewN ?_ _ | refine blk_drew ?_ | refine blk_alloc ?_ _)); refine blk_put (cs := #[.int .i64 f, .int .i64 ver, .slice Ad dl cd, .slice none 0 0, .slice none 0 0, .int .i64 0, .int .i64 0, .int .i64 0]) ?_ 3 _ rfl; (with_reducible repeat (first | refine blk_drewN ?_ _ | refine blk_drew ?_ | refine blk_alloc ?_ _)); refine blk_put (cs := #[.int .i64 f, .int .i64 ver, .slice none 0 0, .slice none 0 0, .slice none 0 0, .int .i64 0, .int .i64 0, .int .i64 0]) ?_ 2 _ rfl; (with_reducible repeat (first | refine blk_drewN ?_ _ | refine blk_drew ?_ | refine blk_alloc ?_ _)); refine blk_put (cs := #[.int .i64 f, .int .i64 0, .slice none 0 0, .slice none 0 0, .slice none 0 0, .int .i64 0, .int .i64 0, .int .i64 0]) ?_ 1 _ rfl; (with_reducible repeat (first | refine blk_drewN ?_ _ | refine blk_drew ?_ | refine blk_alloc ?_ _)); refine blk_put (cs := #[.int .i64 0, .int .i64 0, .slice none 0 0, .slice none 0 0, .slice none 0 0, .int .i64 0, .int .i64 0, .int .i64 0]) ?_ 0 _ rfl; (with_reducible repeat (first | refine blk_drewN ?_ _ | refine blk_drew ?_ | refine blk_alloc ?_ _)); exact BF.out)⟩ ?_
  clear HB BF
  rintro w9 ⟨h0_, h1_⟩
  have HB := Aside0.mk h0_
  have BF := Aside0.mk h1_
  clear h0_ h1_
  have z17 : w9.cell? ⟨gh, 0, none⟩ = some (.int .i64 f) := (blk_cell BF.out 0).trans rfl
  have zf18 := blk_frozen BF.out 0
  have z19 : w9.cell? ⟨gh, 1, none⟩ = some (.int .i64 ver) := (blk_cell BF.out 1).trans rfl
  have zf20 := blk_frozen BF.out 1
  have z21 : w9.cell? ⟨gh, 2, none⟩ = some (.slice Ad dl cd) := (blk_cell BF.out 2).trans rfl
  have zf22 := blk_frozen BF.out 2
  have z23 : w9.cell? ⟨gh, 3, none⟩ = some (.slice As sl cs) := (blk_cell BF.out 3).trans rfl
  have zf24 := blk_frozen BF.out 3
  have z25 : w9.cell? ⟨gh, 4, none⟩ = some (.slice vA vn vc) := (blk_cell BF.out 4).trans rfl
  have zf26 := blk_frozen BF.out 4
  have z27 : w9.cell? ⟨gh, 5, none⟩ = some (.int .i64 0) := (blk_cell BF.out 5).trans rfl
  have zf28 := blk_frozen BF.out 5
  have z29 : w9.cell? ⟨gh, 6, none⟩ = some (.int .i64 0) := (blk_cell BF.out 6).trans rfl
  have zf30 := blk_frozen BF.out 6
  have z31 : w9.cell? ⟨gh, 7, none⟩ = some (.int .i64 0) := (blk_cell BF.out 7).trans rfl
  have zf32 := blk_frozen BF.out 7
  have h := H.out
  clear H
  by_cases c2 : c = 0
  · have q2 : (c != 0) = false := by rw [c2]; rfl
    rw [if_pos c2] at h
    have HL : l0.length ≤ 65536 := HL0 c2
    clear c2 HL0
    by_cases c3 : f = 5
    · have q3 : (f != 5) = false := by rw [c3]; rfl
      rw [if_pos c3] at h
      clear c3
      by_cases c4 : 7 + dl + sl ≤ l0.length
      · rw [if_pos c4] at h
        obtain ⟨⟨tv, ok⟩, h_, h⟩ := Option.bind_eq_some_iff.1 h
        simp only [Option.some.injEq, Prod.mk.injEq] at h
        obtain ⟨rfl, rfl⟩ := h
        obtain ⟨lr, hlr⟩ : ∃ lr : List Int, lr = l0.drop (7 + dl + sl) := ⟨_, rfl⟩
        rw [← hlr] at h_
        have HVS := Aside0.mk h_
        clear h_
        obtain ⟨y1, hy1⟩ : ∃ y : Int, y = 7 + (dl : Int) := ⟨_, rfl⟩
        obtain ⟨y2, hy2⟩ : ∃ y : Int, y = y1 + (sl : Int) := ⟨_, rfl⟩
        have e1 : IntKind.i64.wrap (7 + (dl : Int)) = y1 := by rw [hy1]; exact IntWalk.i64_in _ (by omega)
        have e2 : IntKind.i64.wrap (y1 + (sl : Int)) = y2 := by rw [hy2, hy1]; exact IntWalk.i64_in _ (by omega)
        have b1 : 0 ≤ y2 := by omega
        have b2 : y2 ≤ (l0.length : Int) := by omega
        have b3 : y2 ≤ (c0 : Int) := Int.le_trans b2 (by have := HC.out; omega)
        have HY : y2.toNat = 7 + dl + sl := by omega
        rw [← HY] at hlr
        have HXC := Aside0.mk (show Kd.C (Kd.int .u8) w (if c0 = y2.toNat then A0 else A0.map (·.add y2.toNat)) lr.length lr from by rw [hlr]; exact impl_rv.drop_C HR.out (by omega) HC.out)
        have HE2 := Aside0.mk (show l0.length - y2.toNat = lr.length from by rw [hlr, List.length_drop])
        have HLX := Aside0.mk (show lr.length ≤ c0 - y2.toNat from by rw [hlr, List.length_drop]; have := HC.out; omega)
        clear hlr hy1 hy2 c4 HY HL
        go_wp2_with (first | (go_at_call 15; (have e_ : c0 = y2.toNat := by assumption); (first | rw [show l0.length - c0 = lr.length from by rw [e_]; exact HE2.out] | rw [HE2.out]); refine (impl_versionsOf.calls k A0 0 lr tv ok _ (by have h_ := HXC.out; rw [if_pos e_] at h_; exact Kd.C_below h_ (by repeat (first | (with_reducible first | exact HB.out | apply below_alloc | apply pw_below_drewN | apply below_drew1 | refine below_set ?_ GE_BF.out) | exact HB.out))) (by have := HLX.out; omega) HVS.out).mono ?_; rintro e w10 ⟨vp, rfl, ho_, hb⟩; have HO := Aside0.mk (show Kd.R (Kd.int .i64) 3 w10 w.heap.size (fun _ => True) vp tv from Kd.R_lower ho_ (below_size (by repeat (first | (with_reducible first | exact HB.out | apply below_alloc | apply pw_below_drewN | apply below_drew1 | refine below_set ?_ GE_BF.out) | exact HB.out)))); have h2_ := Aside0.mk (below_step (by repeat (first | (with_reducible first | exact HB.out | apply below_alloc | apply pw_below_drewN | apply below_drew1 | refine below_set ?_ GE_BF.out) | exact HB.out)) hb); clear HB; have HB := h2_; clear h2_ hb ho_) | (go_at_call 15; (have e_ : ¬ c0 = y2.toNat := by assumption); rw [HE2.out]; refine (impl_versionsOf.calls k (A0.map (fun x => x.add y2.toNat)) (c0 - y2.toNat) lr tv ok _ (by have h_ := HXC.out; rw [if_neg e_] at h_; exact Kd.C_below h_ (by repeat (first | (with_reducible first | exact HB.out | apply below_alloc | apply pw_below_drewN | apply below_drew1 | refine below_set ?_ GE_BF.out) | exact HB.out))) HLX.out HVS.out).mono ?_; rintro e w10 ⟨vp, rfl, ho_, hb⟩; have HO := Aside0.mk (show Kd.R (Kd.int .i64) 3 w10 w.heap.size (fun _ => True) vp tv from Kd.R_lower ho_ (below_size (by repeat (first | (with_reducible first | exact HB.out | apply below_alloc | apply pw_below_drewN | apply below_drew1 | refine below_set ?_ GE_BF.out) | exact HB.out)))); have h2_ := Aside0.mk (below_step (by repeat (first | (with_reducible first | exact HB.out | apply below_alloc | apply pw_below_drewN | apply below_drew1 | refine below_set ?_ GE_BF.out) | exact HB.out)) hb); clear HB; have HB := h2_; clear h2_ hb ho_))
        all_goals go_ret2
        all_goals (exact ⟨_, rfl, (by (with_reducible repeat (first | apply Kd.R_alloc | apply Kd.R_drewN | apply Kd.R_drew)); exact HO.out), (by repeat (first | (with_reducible first | exact HB.out | apply below_alloc | apply pw_below_drewN | apply below_drew1 | refine below_set ?_ GE_BF.out) | exact HB.out))⟩)
      · rw [if_neg c4] at h; exact absurd h (by simp)
    · have q3 : (f != 5) = true := bne_iff_ne.2 c3
      rw [if_neg c3] at h
      clear c3
      simp only [Option.some.injEq, Prod.mk.injEq] at h
      obtain ⟨rfl, rfl⟩ := h
      go_wp2
      all_goals go_ret2
      all_goals (exact ⟨_, rfl, Kd.R_nil _ _ _ _ _, (by repeat (first | (with_reducible first | exact HB.out | apply below_alloc | apply pw_below_drewN | apply below_drew1 | refine below_set ?_ GE_BF.out) | exact HB.out))⟩)
  · have q2 : (c != 0) = true := bne_iff_ne.2 c2
    rw [if_neg c2] at h
    clear c2 HL0
    simp only [Option.some.injEq, Prod.mk.injEq] at h
    obtain ⟨rfl, rfl⟩ := h
    go_wp2
    all_goals go_ret2
    all_goals (exact ⟨_, rfl, Kd.R_nil _ _ _ _ _, (by repeat (first | (with_reducible first | exact HB.out | apply below_alloc | apply pw_below_drewN | apply below_drew1 | refine below_set ?_ GE_BF.out) | exact HB.out))⟩)

end Go.Proofs.Ytkomkkpjflmlnaa.PFnExactReadVersions
