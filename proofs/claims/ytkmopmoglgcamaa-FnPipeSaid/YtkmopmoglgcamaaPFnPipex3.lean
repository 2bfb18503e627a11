-- Written by a program of this repo (xprint.py) out of the translation; Lean checks it. SHRUNK
import Derived.Test.YtkmopmoglgcamaaPFnPipex2
import Derived.Test.YtkmopmoglgcamaaPFnPipex0
import Derived.Test.YtkmopmoglgcamaaPFnPipex1
namespace Go.Proofs.Ytkmopmoglgcamaa.PFnPipe
open Go.RowKit Go.Proofs.YtkmopmoglgcamaaW.PrintWords Go.Proofs.YtkmopmoglgcamaaW.PrintLast Go.Proofs.YtkmopmoglgcamaaW.PrintMore
attribute [local go_sem] max2_int min2_int max_two min_two max_three min_three max_four min_four   -- for this text's walks alone
set_option linter.unusedVariables false
set_option linter.unusedSimpArgs false
theorem impl_sd.find_lt (is : List Int) : ∀ (d i j : Nat), impl_sd.find is d i = some j → i ≤ j ∧ j < i + d
  | 0, _, _, h => by simp [impl_sd.find] at h
  | d + 1, i, j, h => by
    simp only [impl_sd.find] at h
    by_cases c : is.getD i 0 = 3
    · rw [if_pos c] at h
      have := Option.some.inj h
      omega
    · rw [if_neg c] at h
      have := impl_sd.find_lt is d (i + 1) j h
      omega
theorem impl_sd.upto_le (is : List Int) (i : Nat) (n : Int) : ∀ (d k : Nat), k ≤ impl_sd.upto is i n d k ∧ impl_sd.upto is i n d k ≤ k + d
  | 0, _ => ⟨Nat.le_refl _, Nat.le_refl _⟩
  | d + 1, k => by
    simp only [impl_sd.upto]
    have h := impl_sd.upto_le is i n d (k + 1)
    by_cases c : is.getD k 0 = 3 ∧ (k : Int) - (i : Int) < n
    · rw [if_pos c]; omega
    · rw [if_neg c]; omega
theorem impl_sd.next_ok (v : impl_sd.V) (n : Int) (hs : v.sent ≤ v.data.length) (hn : 1 ≤ n) (h : (impl_sd.next v n).2.2 = true) : ∃ o z : Nat, (impl_sd.next v n).1 = (o : Int) ∧ (impl_sd.next v n).2.1 = (z : Int) ∧ o + z ≤ v.data.length := by
  unfold impl_sd.next at h ⊢
  by_cases c1 : 2 < v.st
  · rw [if_pos c1] at h; exact absurd h (by simp)
  · rw [if_neg c1] at h ⊢
    cases hf : impl_sd.find v.is v.sent 0 with
    | some i =>
      have h1 := impl_sd.find_lt _ _ _ _ hf
      have h2 := impl_sd.upto_le v.is i n (v.sent - i) i
      exact ⟨i, impl_sd.upto v.is i n (v.sent - i) i - i, rfl, by dsimp only; omega, by omega⟩
    | none =>
      rw [hf] at h
      dsimp only at h ⊢
      by_cases c2 : (v.sent : Int) < min (v.data.length : Int) v.credit
      · rw [if_pos c2]
        refine ⟨v.sent, (min n (min (v.data.length : Int) v.credit - (v.sent : Int))).toNat, rfl, by dsimp only; omega, by omega⟩
      · rw [if_neg c2] at h ⊢
        by_cases c3 : (v.finish && ((v.sent : Int) == (v.data.length : Int)) && (v.fin == 0 || v.fin == 3)) = true
        · rw [if_pos c3]
          exact ⟨v.sent, 0, rfl, rfl, by omega⟩
        · rw [if_neg c3] at h; exact absurd h (by simp)
theorem impl_sd.away_len (is : List Int) (off : Nat) : ∀ d, (impl_sd.away is off d).length = is.length
  | 0 => rfl
  | d + 1 => by simp only [impl_sd.away, List.length_set]; exact impl_sd.away_len is off d
theorem impl_sd.cut (A : Option Addr) (c : Nat) (l : List Int) (o z : Nat) (hz : o + z ≤ l.length) (hc : l.length ≤ c) : ∃ A1 c1, (∀ W : World, (Instr.slice 22 (.slice A l.length c) (some (.int .i64 (o : Int))) (some (.int .i64 ((o : Int) + (z : Int)))) none).run Try.prog W = .ok (.slice A1 ((l.drop o).take z).length c1) W) ∧
    (∀ W : World, (Kd.int .u8).C W A l.length l → (Kd.int .u8).C W A1 ((l.drop o).take z).length ((l.drop o).take z)) ∧ ((l.drop o).take z).length ≤ c1 := by
  obtain ⟨i0, hi0, hj⟩ := Option.map_eq_some_iff.1 impl_sd.info
  simp only [Prod.mk.injEq] at hj
  have h1 := cut_mid (P := Try.prog) 22 5 .i64 .i64 Try.underlying22 hi0 1 hj.2.1 A l.length c (o : Int) ((o : Int) + (z : Int)) (by omega) (by omega) (by omega) hc
  have e1 : ((o : Int) + (z : Int)).toNat = o + z := by omega
  have e2 : (l.take (o + z)).drop o = (l.drop o).take z := by rw [List.drop_take, Nat.add_sub_cancel_left]
  have e3 : ((l.drop o).take z).length = z := by rw [List.length_take, List.length_drop]; omega
  refine ⟨_, _, fun W => (h1 W).trans (by rw [e1, Int.toNat_natCast, e3, Nat.add_sub_cancel_left]), fun W h => ?_, ?_⟩
  · have := Kd.C_mid (lo := o) (hi := o + z) h (by omega) (by omega) hc
    rw [e2] at this
    exact this
  · rw [e3]; omega
theorem impl_sd.St.far {W : World} {base g : Nat} {v : impl_sd.V} {vd vi : Value} (h : impl_sd.St W base g v vd vi) {x : Nat} (h1 : x ≠ g) (h2 : ∀ k, vd.ownBlock = some k → k ≠ x) (h3 : ∀ k, vi.ownBlock = some k → k ≠ x) (j : Nat) (u : Value) : impl_sd.St (W.setCell ⟨x, j, none⟩ u) base g v vd vi :=
  ⟨blk_far h.s (fun e => h1 e.symm) u,
   Kd.R_mono (Kd.R_far (Kd.R_of_own (ok := fun k => (k ≠ g ∧ some k ≠ vi.ownBlock) ∧ k ≠ x) (Kd.own_of_R h.d) (fun k hk => ⟨h.d.1 k hk, h2 k hk⟩)) (fun k hk => hk.2) u) (fun _ hk => hk.1),
   Kd.R_mono (Kd.R_far (Kd.R_of_own (ok := fun k => (k ≠ g ∧ some k ≠ vd.ownBlock) ∧ k ≠ x) (Kd.own_of_R h.i) (fun k hk => ⟨h.i.1 k hk, h3 k hk⟩)) (fun k hk => hk.2) u) (fun _ hk => hk.1), h.b⟩
theorem impl_sd.Kp.far {w W : World} {base g : Nat} {vd vi vd' vi' : Value} (h : impl_sd.Kp w W base g vd vi vd' vi') {x : Nat} (hx : w.heap.size ≤ x) (hb : base ≤ x) (j : Nat) (u : Value) : impl_sd.Kp w (W.setCell ⟨x, j, none⟩ u) base g vd vi vd' vi' :=
  ⟨by simpa [World.setCell] using h.sz, fun k hk h1 h2 h3 => (Below.heap_setCell W ⟨x, j, none⟩ u k (fun e => by subst e; exact Nat.lt_irrefl _ (Nat.lt_of_lt_of_le hk hx))).trans (h.kb k hk h1 h2 h3), h.bl.setCell hb u, h.nd, h.ni⟩
/-- What pull carries: the sender; its result's block and o's block; the bytes it tells. -/
structure impl_sd.Pl (w W : World) (base g : Nat) (v : impl_sd.V) (vd vi : Value) (g4 g5 : Nat) (c4 c5 : Array Value) (vo : Value) (xs : List Int) : Prop where
  st : impl_sd.St W base g v vd vi
  kp : impl_sd.Kp w W base g vd vi vd vi
  b4 : W.heap[g4]? = some (.cells c4 33 (0, 0))
  b5 : W.heap[g5]? = some (.cells c5 33 (0, 0))
  dat : (Kd.int .u8).R 5 W w.heap.size (fun k => k ≠ g4 ∧ k ≠ g5) vo xs
  h4 : w.heap.size ≤ g4
  h5 : w.heap.size ≤ g5
  ne : g4 ≠ g5
  lg : g < w.heap.size
  ld : ∀ k, vd.ownBlock = some k → k < w.heap.size
  li : ∀ k, vi.ownBlock = some k → k < w.heap.size
section
variable {w W W1 W2 : World} {base g g4 g5 : Nat} {v v' : impl_sd.V} {vd vi vo vo1 : Value} {c4 c5 c4' c5' : Array Value} {xs xs1 : List Int}
theorem impl_sd.Pl.below (h : impl_sd.Pl w W base g v vd vi g4 g5 c4 c5 vo xs) (hb : Below W.heap.size W W1) : impl_sd.Pl w W1 base g v vd vi g4 g5 c4 c5 vo xs :=
  ⟨h.st.below hb, h.kp.below (Nat.le_of_lt (Nat.lt_of_le_of_lt h.st.b (blk_lt h.st.s))) hb, blk_below h.b4 hb, blk_below h.b5 hb, Kd.R_below h.dat hb, h.h4, h.h5, h.ne, h.lg, h.ld, h.li⟩
theorem impl_sd.Pl.drew (h : impl_sd.Pl w W base g v vd vi g4 g5 c4 c5 vo xs) : impl_sd.Pl w W.drew base g v vd vi g4 g5 c4 c5 vo xs := h.below (below_drew1 (Below.refl _ _))
theorem impl_sd.Pl.drewN (h : impl_sd.Pl w W base g v vd vi g4 g5 c4 c5 vo xs) (m : Nat) : impl_sd.Pl w (W.drewN m) base g v vd vi g4 g5 c4 c5 vo xs := h.below (pw_below_drewN (Below.refl _ _) m)
theorem impl_sd.Pl.alloc (h : impl_sd.Pl w W base g v vd vi g4 g5 c4 c5 vo xs) (o : Obj) : impl_sd.Pl w (W.alloc o) base g v vd vi g4 g5 c4 c5 vo xs := h.below (below_alloc (Below.refl _ _) o)
theorem impl_sd.Pl.first (h : impl_sd.St w base g v vd vi) (b1 : Below w.heap.size w W) (x4 : W.heap[g4]? = some (.cells c4 33 (0, 0))) (e4 : w.heap.size ≤ g4) (e5 : g5 = W.heap.size) (b2 : Below W.heap.size W W2) (x5 : W2.heap[g5]? = some (.cells c5 33 (0, 0))) : impl_sd.Pl w W2 base g v vd vi g4 g5 c4 c5 (.slice none 0 0) [] :=
  have hlt := blk_lt x4
  have hsz := b1.size
  have hg := blk_lt h.s
  have hbw := Nat.lt_of_le_of_lt h.b hg
  ⟨(h.below b1).below b2, ((impl_sd.Kp.refl w base g vd vi).below (Nat.le_of_lt hbw) b1).below (by omega) b2, blk_below x4 b2, x5, Kd.R_nil _ _ _ _ _, e4, by omega, by omega, hg, Kd.R_lt h.d, Kd.R_lt h.i⟩
theorem impl_sd.Pl.put5 (h : impl_sd.Pl w W base g v vd vi g4 g5 c4 c5 vo xs) (j : Nat) (u : Value) (e : c5.setIfInBounds j u = c5') : impl_sd.Pl w (W.setCell ⟨g5, j, none⟩ u) base g v vd vi g4 g5 c4 c5' vo xs :=
  have h5 := h.h5
  have hbw := Nat.lt_of_le_of_lt h.st.b h.lg
  ⟨h.st.far (by have := h.lg; omega) (fun k hk => by have := h.ld k hk; omega) (fun k hk => by have := h.li k hk; omega) j u, h.kp.far h.h5 (by omega) j u, blk_far h.b4 h.ne u, blk_put h.b5 j u e, Kd.R_far h.dat (fun k hk => hk.2) u, h.h4, h.h5, h.ne, h.lg, h.ld, h.li⟩
theorem impl_sd.Pl.put4 (h : impl_sd.Pl w W base g v vd vi g4 g5 c4 c5 vo xs) (j : Nat) (u : Value) (e : c4.setIfInBounds j u = c4') : impl_sd.Pl w (W.setCell ⟨g4, j, none⟩ u) base g v vd vi g4 g5 c4' c5 vo xs :=
  have h4 := h.h4
  have hbw := Nat.lt_of_le_of_lt h.st.b h.lg
  ⟨h.st.far (by have := h.lg; omega) (fun k hk => by have := h.ld k hk; omega) (fun k hk => by have := h.li k hk; omega) j u, h.kp.far h.h4 (by omega) j u, blk_put h.b4 j u e, blk_far h.b5 h.ne.symm u, Kd.R_far h.dat (fun k hk => hk.1) u, h.h4, h.h5, h.ne, h.lg, h.ld, h.li⟩
theorem impl_sd.Pl.datS (h : impl_sd.Pl w W base g v vd vi g4 g5 c4 c5 vo xs) {b : Nat} (hb : b < w.heap.size) (j : Nat) (u : Value) : (Kd.int .u8).R 5 (W.setCell ⟨b, j, none⟩ u) w.heap.size (fun k => k ≠ g4 ∧ k ≠ g5) vo xs :=
  Kd.R_mono (Kd.R_far (Kd.R_bound h.dat) (fun k hk => by show k ≠ b; have := hk.2.1; omega) u) (fun _ hk => hk.1)
theorem impl_sd.Pl.putg (h : impl_sd.Pl w W base g v vd vi g4 g5 c4 c5 vo xs) (j : Nat) (u : Value)
    (e : (#[.int .i64 v.st, .int .i64 v.credit, vd, vi, .int .i64 (v.sent : Int), .bool v.finish, .int .u8 v.fin] : Array Value).setIfInBounds j u = #[.int .i64 v'.st, .int .i64 v'.credit, vd, vi, .int .i64 (v'.sent : Int), .bool v'.finish, .int .u8 v'.fin]) (ed : v'.data = v.data) (ei : v'.is = v.is) : impl_sd.Pl w (W.setCell ⟨g, j, none⟩ u) base g v' vd vi g4 g5 c4 c5 vo xs :=
  have h4 := h.h4
  have h5 := h.h5
  have hg := h.lg
  ⟨h.st.set j u e ed ei, h.kp.set h.st.b j u, blk_far h.b4 (by show g4 ≠ g; omega) u, blk_far h.b5 (by show g5 ≠ g; omega) u, h.datS h.lg j u, h.h4, h.h5, h.ne, h.lg, h.ld, h.li⟩
theorem impl_sd.Pl.setI {gi n c : Nat} (h : impl_sd.Pl w W base g v vd (.slice (some ⟨gi, 0, none⟩) n c) g4 g5 c4 c5 vo xs) (hb : base ≤ gi) (i : Nat) (x : Int) : impl_sd.Pl w (W.setCell ⟨gi, i, none⟩ (.int .u8 x)) base g { v with is := v.is.set i x } vd (.slice (some ⟨gi, 0, none⟩) n c) g4 g5 c4 c5 vo xs :=
  have hgi : gi < w.heap.size := h.li gi rfl
  have h4 := h.h4
  have h5 := h.h5
  ⟨h.st.setI i x, h.kp.setI hb i _, blk_far h.b4 (by show g4 ≠ gi; omega) _, blk_far h.b5 (by show g5 ≠ gi; omega) _, h.datS hgi i _, h.h4, h.h5, h.ne, h.lg, h.ld, h.li⟩
theorem impl_sd.Pl.made (h : impl_sd.Pl w W base g v vd vi g4 g5 c4 c5 vo xs) (hr : (Kd.int .u8).R 5 W1 W.heap.size (fun _ => True) vo1 xs1) (hb : Below W.heap.size W W1) : impl_sd.Pl w W1 base g v vd vi g4 g5 c4 c5 vo1 xs1 :=
  have hl4 := blk_lt h.b4
  have hl5 := blk_lt h.b5
  let h2 := h.below hb
  ⟨h2.st, h2.kp, h2.b4, h2.b5, Kd.R_lower (Kd.R_mono (Kd.R_bound hr) (fun k hk => by have := hk.2.1; exact ⟨by omega, by omega⟩)) h.kp.sz, h.h4, h.h5, h.ne, h.lg, h.ld, h.li⟩
theorem impl_sd.Pl.out (h : impl_sd.Pl w W base g v vd vi g4 g5 c4 c5 vo xs) : (Kd.int .u8).R 5 W w.heap.size (fun _ => True) vo xs ∧ impl_sd.St W base g v vd vi ∧ impl_sd.Kp w W base g vd vi vd vi := ⟨Kd.R_mono h.dat (fun _ _ => trivial), h.st, h.kp⟩
end

end Go.Proofs.Ytkmopmoglgcamaa.PFnPipe
