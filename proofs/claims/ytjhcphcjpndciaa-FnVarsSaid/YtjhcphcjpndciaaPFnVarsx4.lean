-- Written by a program of this repo (xprint.py) out of the translation; Lean checks it.
import Derived.Test.YtjhcphcjpndciaaPFnVarsx0
import Derived.Test.YtjhcphcjpndciaaPFnVarsx2
import Derived.Test.YtjhcphcjpndciaaPFnVarsx3
namespace Go.Proofs.Ytjhcphcjpndciaa.PFnVars
open Go.RowKit Go.Proofs.YtjhcphcjpndciaaW.PrintWords Go.Proofs.YtjhcphcjpndciaaW.PrintLast Go.Proofs.YtjhcphcjpndciaaW.PrintMore
attribute [local go_sem] max2_int min2_int max_two min_two max_three min_three max_four min_four   -- for this text's walks alone
set_option linter.unusedVariables false
set_option linter.unusedSimpArgs false

/-! ### impl_GetVars: function 32 -/
def impl_GetVars.next (k : Nat) (b : List Int) (at_ : Int) : Option (Int × Bool × Int) :=
  (impl_GetVar.f k b at_).bind fun g => if g.2.2 = 0 then ((impl_VarLen.f g.1).bind fun n => if wrap64 (g.2.1 - at_) = n then some (g.1, true, g.2.1) else some (0, false, at_)) else some (0, false, at_)
def impl_GetVars.go (k : Nat) (b : List Int) : Nat → Int → List Int → Option (List Int × Int)
  | 0, at_, out => if at_ = (b.length : Int) then some (out, 0) else some ([], 3)
  | d + 1, at_, out => (impl_GetVars.next k b at_).bind fun g => if g.2.1 = true then (if out.length < 100000 then impl_GetVars.go k b d g.2.2 (out ++ [g.1]) else none) else some ([], 3)
def impl_GetVars.f (k : Nat) (l0 : List Int) : Option (List Int × Int) :=
  (impl_tooLong.f l0).bind fun t => if t = true then some ([], 4) else (impl_GetVars.next k l0 0).bind fun g =>
    if g.2.1 = true then (if g.1 > 4096 then some ([], 3) else impl_GetVars.go k l0 g.1.toNat g.2.2 []) else some ([], 3)
theorem impl_GetVars.mono_next : ∀ b a k, LeO (impl_GetVars.next k b a) (impl_GetVars.next (k + 1) b a) := by
  intro b a k
  unfold impl_GetVars.next
  exact LeO.bind (impl_GetVar.mono _ _ _) (fun _ => LeO.refl _)
theorem impl_GetVars.mono_go : ∀ b k d a o, LeO (impl_GetVars.go k b d a o) (impl_GetVars.go (k + 1) b d a o) := by
  intro b k d
  induction d with
  | zero => intro a o; exact LeO.refl _
  | succ d ih =>
    intro a o
    unfold impl_GetVars.go
    exact LeO.bind (impl_GetVars.mono_next _ _ _) (fun _ => LeO.ite (LeO.ite (ih _ _) (LeO.refl _)) (LeO.refl _))
theorem impl_GetVars.mono : ∀ a0 k, LeO (impl_GetVars.f k a0) (impl_GetVars.f (k + 1) a0) := by
  intro a0 k
  unfold impl_GetVars.f
  exact LeO.bind (LeO.refl _) (fun _ => LeO.ite (LeO.refl _) (LeO.bind (impl_GetVars.mono_next _ _ _) (fun _ => LeO.ite (LeO.ite (LeO.refl _) (impl_GetVars.mono_go _ _ _ _ _)) (LeO.refl _))))
set_option maxHeartbeats 1000000 in
set_option maxRecDepth 100000 in
/-- The function inside: what stands in the place of 'at' moves on. -/
theorem impl_GetVars.inner (k : Nat) (A : Option Addr) (c : Nat) (l : List Int) (at_ : Int) (v : Int) (ok : Bool) (tz : Int) (p q : Nat) (w0 w : World) (hp : w.heap[p]? = some (.cells #[.slice A l.length c] 28 (0, 0))) (hq : w.heap[q]? = some (.cells #[.int .i64 at_] 3 (0, 0))) (hpq : p ≠ q) (hge : w0.heap.size ≤ q)
    (hB : Below w0.heap.size w0 w) (hr : Kd.C (Kd.int .u8) w A l.length l) (hc : l.length ≤ c) (h : impl_GetVars.next k l at_ = some (v, ok, tz)) :
    Calls Try.prog 97 #[.pointer (some ⟨p, 0, none⟩), .pointer (some ⟨q, 0, none⟩)] w fun e w' => e = .returned (.tuple #[.int .i64 v, .bool ok]) ∧ w'.heap[q]? = some (.cells #[.int .i64 tz] 3 (0, 0)) ∧ w'.heap[p]? = some (.cells #[.slice A l.length c] 28 (0, 0)) ∧ Below w0.heap.size w0 w' ∧ Kept w w' (fun i => i = q) := by
  have hc0 : w.cell? ⟨p, 0, none⟩ = some (.slice A l.length c) := (blk_cell hp 0).trans rfl
  have hc1 : w.cell? ⟨q, 0, none⟩ = some (.int .i64 at_) := (blk_cell hq 0).trans rfl
  have hf1 := blk_frozen hq 0
  have HP := Aside0.mk hp
  have HQ := Aside0.mk hq
  have HB := Aside0.mk hB
  have HR := Aside0.mk hr
  clear hp hq hB hr
  unfold impl_GetVars.next at h
  simp only [Option.bind_eq_some_iff] at h
  obtain ⟨⟨g0, g1, g2⟩, hg, h⟩ := h
  have HG := Aside0.mk hg
  clear hg
  simp only at h
  by_cases h2 : g2 = 0
  · rw [if_pos h2] at h
    subst h2
    simp only [Option.bind_eq_some_iff] at h
    obtain ⟨n, hn, h⟩ := h
    have HN := Aside0.mk hn
    clear hn
    by_cases h3 : wrap64 (g1 - at_) = n
    · rw [if_pos h3] at h
      have h3b : (IntKind.i64.wrap (g1 - at_) != n) = false := by rw [i64_w]; simpa using h3
      have HS := Aside0.mk h
      clear h h3
      go_enter Try.func97, Try.ntmps97
      go_wp2_with (go_at_call 36; refine (impl_GetVar.calls k A c l at_ g0 g1 0 _ HR.out hc HG.out).mono ?_; rintro e w1 ⟨rfl, hd⟩; obtain ⟨m1, hm1⟩ := hd.out; subst hm1; clear hd)
      go_region_held3 (fun w' => w'.cell? ⟨q, 0, none⟩ = some (.int .i64 at_)) (go_keep) (first | (go_at_call 37; refine (impl_VarLen.calls _ _ _ HN.out).mono ?_; rintro e w2 ⟨rfl, hd2⟩; obtain ⟨m2, hm2⟩ := hd2.out; subst hm2; clear hd2))
      go_wp2
      · go_ret2
        have hS := HS.out
        simp only [Option.some.injEq, Prod.mk.injEq] at hS
        obtain ⟨rfl, rfl, rfl⟩ := hS
        exact ⟨rfl, (blk_set (blk_drewN HQ.out _) 0 _).trans rfl, (blk_far (blk_drewN HP.out _) hpq _), below_set (pw_below_drewN HB.out _) hge, (((Kept.refl w (fun i => i = q)).drewN _).setCell (p := ⟨q, 0, none⟩) (.inl rfl) _)⟩
    · rw [if_neg h3] at h
      have h3b : (IntKind.i64.wrap (g1 - at_) != n) = true := by rw [i64_w]; simpa using h3
      have HS := Aside0.mk h
      clear h h3
      go_enter Try.func97, Try.ntmps97
      go_wp2_with (go_at_call 36; refine (impl_GetVar.calls k A c l at_ g0 g1 0 _ HR.out hc HG.out).mono ?_; rintro e w1 ⟨rfl, hd⟩; obtain ⟨m1, hm1⟩ := hd.out; subst hm1; clear hd)
      go_region_held3 (fun w' => w'.cell? ⟨q, 0, none⟩ = some (.int .i64 at_)) (go_keep) (first | (go_at_call 37; refine (impl_VarLen.calls _ _ _ HN.out).mono ?_; rintro e w2 ⟨rfl, hd2⟩; obtain ⟨m2, hm2⟩ := hd2.out; subst hm2; clear hd2))
      go_wp2
      · go_ret2
        have hS := HS.out
        simp only [Option.some.injEq, Prod.mk.injEq] at hS
        obtain ⟨rfl, rfl, rfl⟩ := hS
        exact ⟨rfl, blk_drewN HQ.out _, blk_drewN HP.out _, pw_below_drewN HB.out _, (Kept.refl w _).drewN _⟩
  · rw [if_neg h2] at h
    have h2b : (g2 != 0) = true := by simpa using h2
    have HS := Aside0.mk h
    clear h h2
    go_enter Try.func97, Try.ntmps97
    go_wp2_with (go_at_call 36; refine (impl_GetVar.calls k A c l at_ g0 g1 g2 _ HR.out hc HG.out).mono ?_; rintro e w1 ⟨rfl, hd⟩; obtain ⟨m1, hm1⟩ := hd.out; subst hm1; clear hd)
    go_region
    go_wp2
    go_ret2
    have hS := HS.out
    simp only [Option.some.injEq, Prod.mk.injEq] at hS
    obtain ⟨rfl, rfl, rfl⟩ := hS
    exact ⟨rfl, blk_drew (blk_drewN HQ.out _), blk_drew (blk_drewN HP.out _), below_drew1 (pw_below_drewN HB.out _), ((Kept.refl w _).drewN _).drew⟩
theorem getVars_q (w : World) (o o2 : Obj) (m : Nat) : (((w.alloc o).drewN m).alloc o2).heap[w.heap.size + 1]? = some o2 := by
  have h := heap_alloc_new ((w.alloc o).drewN m) o2
  have e : ((w.alloc o).drewN m).heap.size = w.heap.size + 1 := by first | exact Array.size_push _ | rfl | (show (w.heap.push o).size = _; simp)
  rw [e] at h
  exact h
set_option maxHeartbeats 1000000 in
set_option maxRecDepth 100000 in
theorem impl_GetVars.calls (k : Nat) (A0 : Option Addr) (c0 : Nat) (l0 : List Int) (r1 : List Int) (r2 : Int) (w : World) (hr0 : Kd.C (Kd.int .u8) w A0 l0.length l0) (hc0 : l0.length ≤ c0) (h : impl_GetVars.f k l0 = some (r1, r2)) :
    Calls Try.prog 32 #[.slice A0 l0.length c0] w fun e w' => ∃ v0_ : Value, e = .returned (.tuple #[v0_, .int .i64 r2]) ∧ Kd.R (Kd.int .i64) 3 w' w.heap.size (fun _ => True) v0_ r1 ∧ Below w.heap.size w w' := by
  have HR := Aside0.mk hr0
  have HC := Aside0.mk hc0
  clear hr0 hc0
  unfold impl_GetVars.f at h
  simp only [Option.bind_eq_some_iff] at h
  obtain ⟨t, ht, h⟩ := h
  have HT := Aside0.mk ht
  clear ht
  cases t with
  | true =>
    rw [if_pos rfl] at h
    simp only [Option.some.injEq, Prod.mk.injEq] at h
    obtain ⟨rfl, rfl⟩ := h
    go_enter Try.func32, Try.ntmps32
    go_wp2_with (go_at_call 96; refine (impl_tooLong.calls A0 c0 l0 true _ (by with_reducible repeat (first | exact HR.out | refine Kd.C_alloc ?_ _ | refine Kd.C_drewN ?_ _ | refine Kd.C_drew ?_)) HC.out HT.out).mono ?_; rintro e w1 ⟨rfl, hd⟩; obtain ⟨m1, hm1⟩ := hd.out; subst hm1; clear hd)
    go_ret2
    exact ⟨_, rfl, Kd.R_nil _ _ _ _ _, by repeat (first | exact Below.refl _ _ | apply below_drew1 | apply pw_below_drewN | apply below_alloc)⟩
  | false =>
    rw [if_neg (by decide)] at h
    simp only [Option.bind_eq_some_iff] at h
    obtain ⟨⟨n, ok, at1⟩, hn, h⟩ := h
    have HN := Aside0.mk hn
    clear hn
    cases ok with
    | false =>
      simp only [Bool.false_eq_true, if_false, Option.some.injEq, Prod.mk.injEq] at h
      obtain ⟨rfl, rfl⟩ := h
      go_enter Try.func32, Try.ntmps32
      go_wp2_with (first
      | (go_at_call 96; refine (impl_tooLong.calls A0 c0 l0 false _ (by with_reducible repeat (first | exact HR.out | refine Kd.C_alloc ?_ _ | refine Kd.C_drewN ?_ _ | refine Kd.C_drew ?_)) HC.out HT.out).mono ?_; rintro e w1 ⟨rfl, hd⟩; obtain ⟨m1, hm1⟩ := hd.out; subst hm1; clear hd)
      | (go_at_call 97; refine (impl_GetVars.inner k A0 c0 l0 0 n false at1 w.heap.size (w.heap.size + 1) w _ (blk_alloc (blk_drewN (heap_alloc_new _ _) _) _) ?_ (by omega) (by omega) ?_ ?_ HC.out HN.out).mono ?_; (exact getVars_q _ _ _ _); (with_reducible repeat (first | exact Below.refl _ _ | apply below_drew1 | apply pw_below_drewN | apply below_alloc)); (with_reducible repeat (first | exact HR.out | refine Kd.C_alloc ?_ _ | refine Kd.C_drewN ?_ _ | refine Kd.C_drew ?_)); rintro e w2 ⟨rfl, hq2, hp2, hb2, hk2⟩; have HQ := Aside0.mk hq2; have HP := Aside0.mk hp2; have HB := Aside0.mk hb2; clear hq2 hp2 hb2 hk2))
      go_ret2
      exact ⟨_, rfl, Kd.R_nil _ _ _ _ _, by with_reducible repeat (first | exact HB.out | apply below_drew1 | apply pw_below_drewN | apply below_alloc)⟩
    | true =>
      rw [if_pos rfl] at h
      by_cases c1 : n > 4096
      · rw [if_pos c1] at h
        simp only [Option.some.injEq, Prod.mk.injEq] at h
        obtain ⟨rfl, rfl⟩ := h
        have c1b : decide (4096 < n) = true := decide_eq_true c1
        clear c1
        go_enter Try.func32, Try.ntmps32
        go_wp2_with (first
      | (go_at_call 96; refine (impl_tooLong.calls A0 c0 l0 false _ (by with_reducible repeat (first | exact HR.out | refine Kd.C_alloc ?_ _ | refine Kd.C_drewN ?_ _ | refine Kd.C_drew ?_)) HC.out HT.out).mono ?_; rintro e w1 ⟨rfl, hd⟩; obtain ⟨m1, hm1⟩ := hd.out; subst hm1; clear hd)
      | (go_at_call 97; refine (impl_GetVars.inner k A0 c0 l0 0 n true at1 w.heap.size (w.heap.size + 1) w _ (blk_alloc (blk_drewN (heap_alloc_new _ _) _) _) ?_ (by omega) (by omega) ?_ ?_ HC.out HN.out).mono ?_; (exact getVars_q _ _ _ _); (with_reducible repeat (first | exact Below.refl _ _ | apply below_drew1 | apply pw_below_drewN | apply below_alloc)); (with_reducible repeat (first | exact HR.out | refine Kd.C_alloc ?_ _ | refine Kd.C_drewN ?_ _ | refine Kd.C_drew ?_)); rintro e w2 ⟨rfl, hq2, hp2, hb2, hk2⟩; have HQ := Aside0.mk hq2; have HP := Aside0.mk hp2; have HB := Aside0.mk hb2; clear hq2 hp2 hb2 hk2))
        go_ret2
        exact ⟨_, rfl, Kd.R_nil _ _ _ _ _, by with_reducible repeat (first | exact HB.out | apply below_drew1 | apply pw_below_drewN | apply below_alloc)⟩
      · rw [if_neg c1] at h
        have c1b : decide (4096 < n) = false := decide_eq_false c1
        have HS := Aside0.mk h
        clear h
        go_enter Try.func32, Try.ntmps32
        go_wp2_with (first
      | (go_at_call 96; refine (impl_tooLong.calls A0 c0 l0 false _ (by with_reducible repeat (first | exact HR.out | refine Kd.C_alloc ?_ _ | refine Kd.C_drewN ?_ _ | refine Kd.C_drew ?_)) HC.out HT.out).mono ?_; rintro e w1 ⟨rfl, hd⟩; obtain ⟨m1, hm1⟩ := hd.out; subst hm1; clear hd)
      | (go_at_call 97; refine (impl_GetVars.inner k A0 c0 l0 0 n true at1 w.heap.size (w.heap.size + 1) w _ (blk_alloc (blk_drewN (heap_alloc_new _ _) _) _) ?_ (by omega) (by omega) ?_ ?_ HC.out HN.out).mono ?_; (exact getVars_q _ _ _ _); (with_reducible repeat (first | exact Below.refl _ _ | apply below_drew1 | apply pw_below_drewN | apply below_alloc)); (with_reducible repeat (first | exact HR.out | refine Kd.C_alloc ?_ _ | refine Kd.C_drewN ?_ _ | refine Kd.C_drew ?_)); rintro e w2 ⟨rfl, hq2, hp2, hb2, hk2⟩; have HQ := Aside0.mk hq2; have HP := Aside0.mk hp2; have HB := Aside0.mk hb2; clear hq2 hp2 hb2 hk2)
      | ((with_reducible refine gate_dst (N := 25) rfl ?_); refine Kd.R_lit (Kd.int .i64) _ 3 ?hg (N := 25) ?hd (xs := ([] : List Int)) (inner := []) (ok := fun k_ => w.heap.size + 1 < k_) (okp := fun k_ => w.heap.size + 1 < k_) ?hr ?hp (fun _ hk => hk) (blk_lt HQ.out) (Below.refl _ _) (Nat.le_refl _) (by simp) ?_; (case hd => rfl); (case hg => rfl); (case hr => first | (go_simp; done) | (go_simp; rfl)); (case hp => exact (Reps.none _ _)); intro v25 w3 ho hb hg_ hnew_; clear hg_ hnew_; have HO3 := Aside0.mk (Kd.R_lower ho (below_size HB.out)); have HQ3 := Aside0.mk (blk_below HQ.out hb); have HP3 := Aside0.mk (blk_below HP.out hb); have HB3 := Aside0.mk (below_step HB.out hb); clear ho hb))
        have hqs := blk_lt HQ.out
        go_loopg [27, 8] n.toNat (fun kq v27 v8 wr => ∃ (i : Nat) (a_ : Int) (out : List Int), v27 = .int .i64 i ∧ Aside0 (i + kq = n.toNat) ∧ Aside0 (impl_GetVars.go k l0 kq a_ out = some (r1, r2)) ∧ Aside0 (wr.heap[w.heap.size + 1]? = some (.cells #[.int .i64 a_] 3 (0, 0))) ∧ Aside0 (wr.heap[w.heap.size]? = some (.cells #[.slice A0 l0.length c0] 28 (0, 0))) ∧ Aside0 (Below w.heap.size w wr) ∧ Aside0 (Kd.R (Kd.int .i64) 3 wr w.heap.size (fun k_ => w.heap.size + 1 < k_) v8 out))
        case atStart => exact ⟨0, at1, [], rfl, ⟨by omega⟩, HS, HQ3, HP3, HB3, HO3⟩
        case round =>
          obtain ⟨i, a_, out, rfl, Hi, HA, HQ, HP, HB, HO⟩ := hrel
          by_cases hlt : (i : Int) < n
          · obtain ⟨m, rfl⟩ : ∃ m, gk = m + 1 := ⟨gk - 1, by have := Hi.out; omega⟩
            have hA := HA.out
            rw [impl_GetVars.go] at hA
            simp only [Option.bind_eq_some_iff] at hA
            obtain ⟨⟨v, ok, tz⟩, hn, hA⟩ := hA
            have HN2 := Aside0.mk hn
            clear hn
            cases ok with
            | false =>
              simp only [Bool.false_eq_true, if_false, Option.some.injEq, Prod.mk.injEq] at hA
              obtain ⟨rfl, rfl⟩ := hA
              go_wp2_with (first
                | (go_at_call 97; refine (impl_GetVars.inner k A0 c0 l0 a_ v false tz w.heap.size (w.heap.size + 1) w _ HP.out HQ.out (by omega) (by omega) HB.out (Kd.C_below HR.out HB.out) HC.out HN2.out).mono ?_; rintro e w4 ⟨rfl, hq2, hp2, hb2, hk2⟩; have hk3 := Kept.keepG (KeepBut.refl _ _ none) hk2 (fun _ h => .inl h); have n0_ := Aside0.mk (Kd.R_keep HO.out hk3 (fun k_ (hk : w.heap.size + 1 < k_) => by omega)); clear HO HQ HP HB; have HO := n0_; have HQ := Aside0.mk hq2; have HP := Aside0.mk hp2; have HB := Aside0.mk hb2; clear hq2 hp2 hb2 hk2 hk3 n0_))
              go_ret2
              exact ⟨_, rfl, Kd.R_nil _ _ _ _ _, by with_reducible repeat (first | exact HB.out | apply below_drew1 | apply pw_below_drewN | apply below_alloc)⟩
            | true =>
              rw [if_pos rfl] at hA
              by_cases hl : out.length < 100000
              · rw [if_pos hl] at hA
                have HL := Aside0.mk hl
                have HS2 := Aside0.mk hA
                clear hl hA
                have hqs2 := blk_lt HQ.out
                go_wp2_with (first
                | (go_at_call 97; refine (impl_GetVars.inner k A0 c0 l0 a_ v true tz w.heap.size (w.heap.size + 1) w _ HP.out HQ.out (by omega) (by omega) HB.out (Kd.C_below HR.out HB.out) HC.out HN2.out).mono ?_; rintro e w4 ⟨rfl, hq2, hp2, hb2, hk2⟩; have hk3 := Kept.keepG (KeepBut.refl _ _ none) hk2 (fun _ h => .inl h); have n0_ := Aside0.mk (Kd.R_keep HO.out hk3 (fun k_ (hk : w.heap.size + 1 < k_) => by omega)); clear HO HQ HP HB; have HO := n0_; have HQ := Aside0.mk hq2; have HP := Aside0.mk hp2; have HB := Aside0.mk hb2; clear hq2 hp2 hb2 hk2 hk3 n0_)
                | ((with_reducible refine gate_builtin (b := .append) (xs := #[.tmp 36, .tmp 38]) rfl ?_); at_builtin; refine Kd.R_append (Kd.int .i64) (w0 := w) w.heap.size rfl (.tmp 36) (.tmp 38) 48 3 (.int .i64 0) 8 rfl Try.underlying48 info3 rfl (by decide) (by omega) u8 out v [.int .i64 v] (fun k_ => w.heap.size + 1 < k_) (fun _ => False) rfl rfl ?aP (fun _ hk => hk.elim) ?aF ?aO ?aB ?aS ?aL ?_; (case aP => exact rfl); (case aB => exact HB.out); (case aF => exact (fun k_ hk => Nat.lt_of_lt_of_le (blk_lt HQ.out) hk)); (case aO => exact HO.out); (case aS => exact below_size HB.out); (case aL => have := HL.out; omega); intro v1 w5 ho hb hg hat; have hne : ∀ j, j ≤ w.heap.size + 1 → some j ≠ u8.ownBlock := (fun j hj e_ => by have := HO.out.1 j e_.symm; omega); have n1_ := Aside0.mk ((hg.block _ (blk_lt HQ.out) (hne _ (Nat.le_refl _))).trans HQ.out); have n2_ := Aside0.mk ((hg.block _ (blk_lt HP.out) (hne _ (Nat.le_succ _))).trans HP.out); clear HO HQ HP HB; have HO := Aside0.mk ho; have HQ := n1_; have HP := n2_; have HB := Aside0.mk hb; clear ho hb hg hat n1_ n2_ hne))
                go_roundg m
                case measure => omega
                case rel => exact ⟨i + 1, tz, out ++ [v], by go_num, ⟨by have := Hi.out; omega⟩, HS2, HQ, HP, HB, HO⟩
              · rw [if_neg hl] at hA
                exact absurd hA (by simp)
          · obtain rfl : gk = 0 := by have := Hi.out; omega
            have hA := HA.out
            rw [impl_GetVars.go] at hA
            have hcq := (blk_cell HQ.out 0).trans (show (#[Value.int .i64 a_] : Array Value)[0]? = some (.int .i64 a_) from rfl)
            have hcp := (blk_cell HP.out 0).trans (show (#[Value.slice A0 l0.length c0] : Array Value)[0]? = some (.slice A0 l0.length c0) from rfl)
            by_cases he : a_ = (l0.length : Int)
            · rw [if_pos he] at hA
              have heb : (a_ != (l0.length : Int)) = false := by simpa using he
              clear he
              simp only [Option.some.injEq, Prod.mk.injEq] at hA
              obtain ⟨rfl, rfl⟩ := hA
              obtain ⟨Ao, co, eo⟩ := Kd.R_slice HO.out
              subst eo
              go_wp2
              go_ret2
              exact ⟨.slice Ao out.length co, rfl, Kd.R_mono (by with_reducible repeat (first | exact HO.out | apply Kd.R_drewN | apply Kd.R_drew)) (fun _ _ => trivial), by with_reducible repeat (first | exact HB.out | apply below_drew1 | apply pw_below_drewN | apply below_alloc)⟩
            · rw [if_neg he] at hA
              have heb : (a_ != (l0.length : Int)) = true := by simpa using he
              clear he
              simp only [Option.some.injEq, Prod.mk.injEq] at hA
              obtain ⟨rfl, rfl⟩ := hA
              go_wp2
              go_ret2
              exact ⟨_, rfl, Kd.R_nil _ _ _ _ _, by with_reducible repeat (first | exact HB.out | apply below_drew1 | apply pw_below_drewN | apply below_alloc)⟩

/-! ### laws_copied: function 33 -/
def laws_copied.f (l0 : List Int) : Option (List Int) := (some (([] : List Int) : List Int)).bind fun y250 => (if y250.length + l0.length < 140737488355328 then (some (y250 ++ l0)) else (none))
set_option maxHeartbeats 8000000 in
set_option maxRecDepth 100000 in
theorem laws_copied.calls (A0 : Option Addr) (c0 : Nat) (l0 : List Int) (r : List Int) (w : World) (hr0 : Kd.C (Kd.int .u8) w A0 l0.length l0) (hc0 : l0.length ≤ c0) (h : laws_copied.f l0 = some r) :
    Calls Try.prog 33 #[.slice A0 l0.length c0] w fun e w' => ∃ v0_ : Value, e = .returned (v0_) ∧ Kd.R (Kd.int .u8) 5 w' w.heap.size (fun _ => True) v0_ r ∧ Below w.heap.size w w' := by
  have HR0 := Aside0.mk hr0
  have HC0 := Aside0.mk hc0
  clear hr0 hc0
  have HB := Aside0.mk (Below.refl w.heap.size w)
  have H : ((some (([] : List Int) : List Int)).bind fun y250 => (if y250.length + l0.length < 140737488355328 then (some (y250 ++ l0)) else (none))) = some r := h
  clear h
  obtain ⟨y250, hy250⟩ : ∃ y_ : List Int, y_ = (([] : List Int)) := ⟨_, rfl⟩
  replace H : (if y250.length + l0.length < 140737488355328 then (some (y250 ++ l0)) else (none)) = some r := by first | (rw [hy250]; with_reducible exact H) | (have H2_ := (Option.bind_some _ _).symm.trans H; rw [hy250]; with_reducible exact H2_) | (have H2_ := (Option.bind_some _ _).symm.trans H; with_reducible exact H2_) | with_reducible exact H | (rw [hy250]; exact H) | exact H
  have Ny250 := Aside0.mk hy250
  clear hy250
  by_cases c2 : y250.length + l0.length < 140737488355328
  · rw [if_pos c2] at H
    have LMc2 := Aside0.mk c2
    clear c2
    obtain ⟨y253, hy253⟩ : ∃ y_ : List Int, y_ = (y250 ++ l0) := ⟨_, rfl⟩
    replace H : (some y253) = some r := by first | (rw [hy253]; with_reducible exact H) | (have H2_ := (Option.bind_some _ _).symm.trans H; rw [hy253]; with_reducible exact H2_) | (have H2_ := (Option.bind_some _ _).symm.trans H; with_reducible exact H2_) | with_reducible exact H | (rw [hy253]; exact H) | exact H
    have Ny253 := Aside0.mk hy253
    clear hy253
    obtain rfl := Option.some.inj H
    go_enter Try.func33, Try.ntmps33
    go_wp2_with (first | ((with_reducible refine gate_dst (N := 3) rfl ?_); refine Kd.R_lit (Kd.int .u8) _ 5 ?hg (N := 3) ?hd (xs := ([] : List Int)) (inner := []) (ok := fun _ => True) (okp := fun _ => True) ?hr ?hp (fun _ hk => hk) trivial (Below.refl _ _) (Nat.le_refl _) (by simp) ?_; (case hd => rfl); (case hg => rfl); (case hr => first | (go_simp; done) | (go_simp; rfl)); (case hp => exact (Reps.none _ _)); intro v251 w3 ho4 hb hg_ hnew_; clear hg_ hnew_; (first | rw [← Ny250.out] at ho4 | (simp only [Int.reduceToNat] at ho4; rw [← Ny250.out] at ho4)); have n0_ := Aside0.mk (Kd.R_lower ho4 (below_size (by repeat (first | (with_reducible first | exact HB.out | apply below_alloc | apply pw_below_drewN | apply below_drew1) | exact HB.out)))); have n1_ := Aside0.mk (below_step (by repeat (first | (with_reducible first | exact HB.out | apply below_alloc | apply pw_below_drewN | apply below_drew1) | exact HB.out)) hb); clear HB; have HO252 := n0_; have HB := n1_; clear n0_ n1_; clear hb ho4) | ((with_reducible refine gate_builtin (b := .append) (xs := #[.tmp 3, .tmp 4]) rfl ?_); at_builtin; refine Kd.R_append_rows (Kd.int .u8) (w0 := w) w.heap.size rfl (.tmp 3) (.tmp 4) 28 5 (.int .u8 0) 1 rfl Try.underlying28 info5 rfl (by decide) (by omega) v251 y250 l0 _ _ _ (fun _ => True) (fun _ => False) rfl rfl ?aO ?aR (fun _ _ h => h) (fun _ h => h.elim) ?aF ?aB ?aS ?aL ?_; (case aR => repeat (first | exact (Kd.C_below HR0.out HB.out) | (with_reducible refine Kd.C_alloc ?_ _) | (with_reducible refine Kd.C_drewN ?_ _) | (with_reducible refine Kd.C_drew ?_))); (case aB => exact (by repeat (first | (with_reducible first | exact HB.out | apply below_alloc | apply pw_below_drewN | apply below_drew1) | exact HB.out))); (case aF => exact (fun _ _ => trivial)); (case aO => exact (by (with_reducible repeat (first | apply Kd.R_alloc | apply Kd.R_drewN | apply Kd.R_drew)); exact HO252.out)); (case aS => exact (below_size (by repeat (first | (with_reducible first | exact HB.out | apply below_alloc | apply pw_below_drewN | apply below_drew1) | exact HB.out)))); (case aL => have := LMc2.out; omega); intro v254 w5 ho hb hg hat; rw [← Ny253.out] at ho; have n0_ := Aside0.mk (hb); have n1_ := Aside0.mk (ho); clear HB; clear HO252; have HB := n0_; have HO255 := n1_; clear n0_ n1_; clear ho hb hg hat))
    go_ret
    exact ⟨_, by first | rfl | (simp [errW_none, errW_some] <;> rfl) | (simp [*, errW_none, errW_some] <;> rfl), by (with_reducible repeat (first | apply Kd.R_alloc | apply Kd.R_drewN | apply Kd.R_drew)); exact HO255.out, by repeat (first | (with_reducible first | exact HB.out | apply below_alloc | apply pw_below_drewN | apply below_drew1) | exact HB.out)⟩
  · rw [if_neg c2] at H
    exact absurd H (by simp)

/-! ### laws_sameInts: function 34 -/
def laws_sameInts.l0 : Nat → List Int → List Int → Int → Option (Bool)
  | 0, _, _, _ => none
  | k + 1, x0, x1, x5 => if x5 < (x0.length : Int) then (if 0 ≤ x5 then (if x5 < (x1.length : Int) then (if (rd x0 x5) = (rd x1 x5) then (laws_sameInts.l0 k x0 x1 (wrap64 (x5 + 1))) else (some false)) else (none)) else (none)) else (some true)
def laws_sameInts.f (k : Nat) (l0 : List Int) (l1 : List Int) : Option (Bool) := if (l0.length : Int) = (l1.length : Int) then (laws_sameInts.l0 k l0 l1 0) else (some false)
theorem laws_sameInts.mono_l : ∀ k, (∀ y0 y1 y2, LeO (laws_sameInts.l0 k y0 y1 y2) (laws_sameInts.l0 (k + 1) y0 y1 y2))
  | 0 => fun _ _ _ r h => by simp [laws_sameInts.l0] at h
  | k + 1 => by
    have ih0 := laws_sameInts.mono_l k
    · intro y0 y1 y2
      unfold laws_sameInts.l0
      repeat' first
      | (with_reducible exact ih0 _ _ _)
      | (with_reducible exact LeO.refl _)
      | (with_reducible exact LeO.none _)
      | (with_reducible refine LeO.ite ?_ ?_)
      | (with_reducible refine LeO.bind ?_ (fun _ => ?_))
      | exact ih0 _ _ _
      | exact LeO.none _
      | refine LeO.ite ?_ ?_
      | refine LeO.bind ?_ (fun _ => ?_)
theorem laws_sameInts.mono : ∀ a0 a1 k, LeO (laws_sameInts.f k a0 a1) (laws_sameInts.f (k + 1) a0 a1) := by
  intro a0 a1 k
  have ih0 := laws_sameInts.mono_l k
  unfold laws_sameInts.f
  repeat' first
      | (with_reducible exact ih0 _ _ _)
      | (with_reducible exact LeO.refl _)
      | (with_reducible exact LeO.none _)
      | (with_reducible refine LeO.ite ?_ ?_)
      | (with_reducible refine LeO.bind ?_ (fun _ => ?_))
      | exact ih0 _ _ _
      | exact LeO.none _
      | refine LeO.ite ?_ ?_
      | refine LeO.bind ?_ (fun _ => ?_)
set_option maxHeartbeats 8000000 in
set_option maxRecDepth 100000 in
theorem laws_sameInts.calls (k : Nat) (A0 : Option Addr) (c0 : Nat) (l0 : List Int) (A1 : Option Addr) (c1 : Nat) (l1 : List Int) (r : Bool) (w : World) (hr0 : Kd.C (Kd.int .i64) w A0 l0.length l0) (hc0 : l0.length ≤ c0) (hr1 : Kd.C (Kd.int .i64) w A1 l1.length l1) (hc1 : l1.length ≤ c1) (h : laws_sameInts.f k l0 l1 = some r) :
    Calls Try.prog 34 #[.slice A0 l0.length c0, .slice A1 l1.length c1] w fun e w' => e = .returned (.bool r) ∧ Drawn0 w w' := by
  have HR0 := Aside0.mk hr0
  have HC0 := Aside0.mk hc0
  clear hr0 hc0
  have HR1 := Aside0.mk hr1
  have HC1 := Aside0.mk hc1
  clear hr1 hc1
  have H : (if (l0.length : Int) = (l1.length : Int) then (laws_sameInts.l0 k l0 l1 0) else (some false)) = some r := h
  clear h
  by_cases c3 : (l0.length : Int) = (l1.length : Int)
  · rw [if_pos c3] at H
    have c3b0 : ((l0.length : Int) == (l1.length : Int)) = true := beq_iff_eq.mpr c3
    have c3b1 : ((l0.length : Int) != (l1.length : Int)) = false := bne_eq_false_iff_eq.mpr c3
    have c3b2 : (l0.length == l1.length) = true := by first | simpa using c3 | (simp at c3 ⊢; omega)
    clear c3
    have H' := Aside0.mk H
    clear H
    go_enter Try.func34, Try.ntmps34
    go_wp2
    repeat (go_quiet (fail); try go_wp2)
    go_loopg [5] k (fun kq v5 w' => ∃ (x5_1 : Int), v5 = .int .i64 x5_1 ∧ Aside0 (laws_sameInts.l0 kq l0 l1 x5_1 = some r) ∧ Aside0 (kq ≤ k) ∧ Drawn0 w w')
    case atStart => exact ⟨(0), (by first | rfl | (simp; done) | (simp [*]; done)), H', ⟨Nat.le_refl _⟩, by repeat (first | exact Drawn0.refl _ | apply Drawn0.step)⟩
    case round =>
      clear H'
      try clear c1
      try clear p2
      try clear c3
      try clear c3b0
      try clear c3b1
      try clear c3b2
      obtain ⟨x5_1, rfl, HA, HK1, ⟨m1, rfl⟩⟩ := hrel
      cases gk with
      | zero => exact absurd HA.out (by simp [laws_sameInts.l0])
      | succ k1 =>
        have H := HA.out
        clear HA
        simp only [laws_sameInts.l0] at H
        by_cases c4 : x5_1 < (l0.length : Int)
        · rw [if_pos c4] at H
          have c4b0 : decide (x5_1 < (l0.length : Int)) = true := decide_eq_true c4
          clear c4
          by_cases c5 : 0 ≤ x5_1
          · rw [if_pos c5] at H
            have c5b0 : decide (0 ≤ x5_1) = true := decide_eq_true c5
            clear c5
            by_cases c6 : x5_1 < (l1.length : Int)
            · rw [if_pos c6] at H
              have c6b0 : decide (x5_1 < (l1.length : Int)) = true := decide_eq_true c6
              clear c6
              by_cases c7 : (rd l0 x5_1) = (rd l1 x5_1)
              · rw [if_pos c7] at H
                have c7b0 : ((rd l0 x5_1) == (rd l1 x5_1)) = true := beq_iff_eq.mpr c7
                have c7b1 : ((rd l0 x5_1) != (rd l1 x5_1)) = false := bne_eq_false_iff_eq.mpr c7
                clear c7
                have H' := Aside0.mk H
                clear H
                have p256 : 0 ≤ (x5_1 : Int) := of_decide_eq_true (by first | (with_reducible assumption) | assumption)
                have q256 : x5_1 < (l0.length : Int) := of_decide_eq_true (by first | (with_reducible assumption) | assumption)
                obtain ⟨ad256, e256, hx256_0⟩ := Kd.at_int HR0.out x5_1 p256 q256
                cases e256
                replace p256 := eq_true p256
                replace q256 := eq_true q256
                have p257 : 0 ≤ (x5_1 : Int) := of_decide_eq_true (by first | (with_reducible assumption) | assumption)
                have q257 : x5_1 < (l1.length : Int) := of_decide_eq_true (by first | (with_reducible assumption) | assumption)
                obtain ⟨ad257, e257, hx257_0⟩ := Kd.at_int HR1.out x5_1 p257 q257
                cases e257
                replace p257 := eq_true p257
                replace q257 := eq_true q257
                go_wp2
                repeat (go_quiet (fail); try go_wp2)
                go_roundg k1
                case measure => have := HK1.out; omega
                case rel => exact ⟨(wrap64 (x5_1 + 1)), (by first | rfl | (simp; done) | (simp [*]; done)), H', ⟨by have := HK1.out; omega⟩, by repeat (first | exact Drawn0.refl _ | apply Drawn0.step)⟩
              · rw [if_neg c7] at H
                have c7b0 : ((rd l0 x5_1) == (rd l1 x5_1)) = false := beq_eq_false_iff_ne.mpr c7
                have c7b1 : ((rd l0 x5_1) != (rd l1 x5_1)) = true := bne_iff_ne.mpr c7
                obtain rfl := Option.some.inj H
                have p256 : 0 ≤ (x5_1 : Int) := of_decide_eq_true (by first | (with_reducible assumption) | assumption)
                have q256 : x5_1 < (l0.length : Int) := of_decide_eq_true (by first | (with_reducible assumption) | assumption)
                obtain ⟨ad256, e256, hx256_0⟩ := Kd.at_int HR0.out x5_1 p256 q256
                cases e256
                replace p256 := eq_true p256
                replace q256 := eq_true q256
                have p257 : 0 ≤ (x5_1 : Int) := of_decide_eq_true (by first | (with_reducible assumption) | assumption)
                have q257 : x5_1 < (l1.length : Int) := of_decide_eq_true (by first | (with_reducible assumption) | assumption)
                obtain ⟨ad257, e257, hx257_0⟩ := Kd.at_int HR1.out x5_1 p257 q257
                cases e257
                replace p257 := eq_true p257
                replace q257 := eq_true q257
                go_wp2
                repeat (go_quiet (fail); try go_wp2)
                go_ret
                exact ⟨by first | rfl | (simp; done) | (simp [*]; done), by repeat (first | exact Drawn0.refl _ | apply Drawn0.step)⟩
            · rw [if_neg c6] at H
              exact absurd H (by simp)
          · rw [if_neg c5] at H
            exact absurd H (by simp)
        · rw [if_neg c4] at H
          have c4b0 : decide (x5_1 < (l0.length : Int)) = false := decide_eq_false c4
          clear c4
          obtain rfl := Option.some.inj H
          go_wp2
          repeat (go_quiet (fail); try go_wp2)
          go_ret
          exact ⟨by first | rfl | (simp; done) | (simp [*]; done), by repeat (first | exact Drawn0.refl _ | apply Drawn0.step)⟩
  · rw [if_neg c3] at H
    have c3b0 : ((l0.length : Int) == (l1.length : Int)) = false := beq_eq_false_iff_ne.mpr c3
    have c3b1 : ((l0.length : Int) != (l1.length : Int)) = true := bne_iff_ne.mpr c3
    have c3b2 : (l0.length == l1.length) = false := by first | simpa using c3 | (simp at c3 ⊢; omega)
    obtain rfl := Option.some.inj H
    go_enter Try.func34, Try.ntmps34
    go_wp2
    repeat (go_quiet (fail); try go_wp2)
    go_ret
    exact ⟨by first | rfl | (simp; done) | (simp [*]; done), by repeat (first | exact Drawn0.refl _ | apply Drawn0.step)⟩

/-! ### impl_PutVar: function 35 -/
def impl_PutVar.f (k : Nat) (a0 : Int) : Option (List Int × Int) := (impl_inVar.f a0).bind fun t258 => (if t258 = true then ((impl_addVar.f k ([] : List Int) a0).bind fun t259 => (some (t259, 0))) else (some (([] : List Int), 1)))
theorem impl_PutVar.mono : ∀ a0 k, LeO (impl_PutVar.f k a0) (impl_PutVar.f (k + 1) a0) := by
  intro a0 k
  unfold impl_PutVar.f
  repeat' first
      | (with_reducible exact impl_addVar.mono _ _ _)
      | (with_reducible exact LeO.refl _)
      | (with_reducible exact LeO.none _)
      | (with_reducible refine LeO.ite ?_ ?_)
      | (with_reducible refine LeO.bind ?_ (fun _ => ?_))
      | exact impl_addVar.mono _ _ _
      | exact LeO.none _
      | refine LeO.ite ?_ ?_
      | refine LeO.bind ?_ (fun _ => ?_)
set_option maxHeartbeats 8000000 in
set_option maxRecDepth 100000 in
theorem impl_PutVar.calls (k : Nat) (a0 : Int) (r1 : List Int) (r2 : Int) (w : World) (h : impl_PutVar.f k a0 = some (r1, r2)) :
    Calls Try.prog 35 #[.int .i64 a0] w fun e w' => ∃ v0_ : Value, e = .returned (.tuple #[v0_, .int .i64 r2]) ∧ Kd.R (Kd.int .u8) 5 w' w.heap.size (fun _ => True) v0_ r1 ∧ Below w.heap.size w w' := by
  have HB := Aside0.mk (Below.refl w.heap.size w)
  have H : ((impl_inVar.f a0).bind fun t258 => (if t258 = true then ((impl_addVar.f k ([] : List Int) a0).bind fun t259 => (some (t259, 0))) else (some (([] : List Int), 1)))) = some (r1, r2) := h
  clear h
  replace H := Option.bind_eq_some_iff.mp H
  obtain ⟨t258, A20, H⟩ := H
  replace H : (if t258 = true then ((impl_addVar.f k ([] : List Int) a0).bind fun t259 => (some (t259, 0))) else (some (([] : List Int), 1))) = some (r1, r2) := H
  have A2 := Aside0.mk A20
  clear A20
  by_cases c3 : t258 = true
  · subst c3
    have H1 : ((impl_addVar.f k ([] : List Int) a0).bind fun t259 => (some (t259, 0))) = some (r1, r2) := by rw [if_pos rfl] at H; exact H
    clear H
    have H := H1
    clear H1
    replace H := Option.bind_eq_some_iff.mp H
    obtain ⟨t259, A40, H⟩ := H
    replace H : (some (t259, 0)) = some (r1, r2) := H
    have A4 := Aside0.mk A40
    clear A40
    simp only [Option.some.injEq, Prod.mk.injEq] at H
    obtain ⟨rfl, rfl⟩ := H
    go_enter Try.func35, Try.ntmps35
    go_wp2_with (first | ((with_reducible refine gate_callee (f := 86) rfl ?_); refine goesL_ (some 5) rfl rfl Try.func86 (by kernel_rfl) rfl #[.int .i64 a0] rfl (by (try simp only [List.map_toArray, List.map_cons, List.map_nil]); first | done | rfl | (simp only [List.length_drop, List.length_take]; rfl)) ?_; (with_reducible refine (impl_inVar.calls a0 true _ A2.out).mono ?_); rintro e w' ⟨rfl, ⟨nd, rfl⟩⟩; refine ⟨_, rfl, ?_⟩) | ((with_reducible refine gate_callee (f := 95) rfl ?_); refine goesL_ (some 8) rfl rfl Try.func95 (by kernel_rfl) rfl #[.slice none 0 0, .int .i64 a0] rfl (by (try simp only [List.map_toArray, List.map_cons, List.map_nil]); first | done | rfl | (simp only [List.length_drop, List.length_take]; rfl)) ?_; (refine (impl_addVar.calls k (fun k_ => some k_ = (.slice none 0 0 : Value).ownBlock) (.slice none 0 0) ([] : List Int) a0 t259 w _ ?side1 ?side2 A4.out).mono ?_); (case side1 => repeat (first | (with_reducible first | exact HB.out | apply below_alloc | apply pw_below_drewN | apply below_drew1) | exact HB.out)); (case side2 => exact Kd.R_nil _ _ _ _ _); rintro e w5 ⟨v260, rfl, ho0, hb, hkp⟩; refine ⟨_, rfl, ?_⟩; have n0_ := Aside0.mk (Kd.R_mono (ok' := fun k_ => True) ho0 (fun k_ hk_ => trivial)); have n1_ := Aside0.mk (hb); clear HB; have HO261 := n0_; have HB := n1_; clear n0_ n1_; (try clear hb); (try clear hkp); (try clear ho0)))
    go_ret2
    exact ⟨_, by first | rfl | (simp [errW_none, errW_some] <;> rfl) | (simp [*, errW_none, errW_some] <;> rfl), by (with_reducible repeat (first | apply Kd.R_alloc | apply Kd.R_drewN | apply Kd.R_drew)); exact HO261.out, by repeat (first | (with_reducible first | exact HB.out | apply below_alloc | apply pw_below_drewN | apply below_drew1) | exact HB.out)⟩
  · replace c3 := Bool.eq_false_iff.mpr c3
    subst c3
    have H1 : (some (([] : List Int), 1)) = some (r1, r2) := by rw [if_neg (show ¬ (false = true) by decide)] at H; exact H
    clear H
    have H := H1
    clear H1
    simp only [Option.some.injEq, Prod.mk.injEq] at H
    obtain ⟨rfl, rfl⟩ := H
    go_enter Try.func35, Try.ntmps35
    go_wp2_with (first | ((with_reducible refine gate_callee (f := 86) rfl ?_); refine goesL_ (some 5) rfl rfl Try.func86 (by kernel_rfl) rfl #[.int .i64 a0] rfl (by (try simp only [List.map_toArray, List.map_cons, List.map_nil]); first | done | rfl | (simp only [List.length_drop, List.length_take]; rfl)) ?_; (with_reducible refine (impl_inVar.calls a0 false _ A2.out).mono ?_); rintro e w' ⟨rfl, ⟨nd, rfl⟩⟩; refine ⟨_, rfl, ?_⟩))
    go_ret2
    exact ⟨_, by first | rfl | (simp [errW_none, errW_some] <;> rfl) | (simp [*, errW_none, errW_some] <;> rfl), by first | exact Kd.R_nil _ _ _ _ _ | exact Kd.N_nil _ _ _ _ _ | exact Kd.V_nil _ _ _ _ _ | exact Kd.Q_nil _ _ _ _ _ | exact Kd.S_nil _ _ _ _ _, by repeat (first | (with_reducible first | exact HB.out | apply below_alloc | apply pw_below_drewN | apply below_drew1) | exact HB.out)⟩

end Go.Proofs.Ytjhcphcjpndciaa.PFnVars
