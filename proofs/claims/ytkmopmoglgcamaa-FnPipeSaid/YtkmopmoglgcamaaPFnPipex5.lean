-- Written by a program of this repo (xprint.py) out of the translation; Lean checks it. SHRUNK
import Derived.Test.YtkmopmoglgcamaaPFnPipex4
import Derived.Test.YtkmopmoglgcamaaPFnPipex0
import Derived.Test.YtkmopmoglgcamaaPFnPipex1
namespace Go.Proofs.Ytkmopmoglgcamaa.PFnPipe
open Go.RowKit Go.Proofs.YtkmopmoglgcamaaW.PrintWords Go.Proofs.YtkmopmoglgcamaaW.PrintLast Go.Proofs.YtkmopmoglgcamaaW.PrintMore
attribute [local go_sem] max2_int min2_int max_two min_two max_three min_three max_four min_four   -- for this text's walks alone
set_option linter.unusedVariables false
set_option linter.unusedSimpArgs false
/-! An operation on the sending part, and what it told. -/
theorem impl_sr.info : (Try.prog.info? 33).map (fun i => (i.zero, i.size, i.bytes)) = some (some (.agg #[.int .i64 0, .int .i64 0, .int .i64 0, .slice none 0 0, .bool false, .bool false, .bool false]), 7, 56) := by kernel_rfl
structure impl_sr.Inv (v : impl_sd.V) : Prop where
  li : v.is.length = v.data.length
  ld : v.data.length ≤ 65536
  ls : v.sent ≤ v.data.length
  lc : 0 ≤ v.credit
theorem impl_sr.inv_write {v : impl_sd.V} (h : impl_sr.Inv v) (data : List Int) : impl_sr.Inv (impl_sd.write v data).2 := by
  unfold impl_sd.write
  by_cases c : (!impl_sd.opens v || v.finish) = true
  · rw [if_pos c]; exact h
  · rw [if_neg c]
    by_cases c2 : 65536 < v.data.length + data.length
    · rw [if_pos c2]; exact h
    · rw [if_neg c2]
      have h1 := h.li
      have h2 := h.ls
      exact ⟨by dsimp only; rw [List.length_append, List.length_append, List.length_replicate, h1], by dsimp only; rw [List.length_append]; omega, by dsimp only; rw [List.length_append]; omega, h.lc⟩
theorem impl_sr.inv_finished {v : impl_sd.V} (h : impl_sr.Inv v) : impl_sr.Inv (impl_sd.finished v).2 := by
  unfold impl_sd.finished
  by_cases c : (!impl_sd.opens v || v.finish) = true
  · rw [if_pos c]; exact h
  · rw [if_neg c]; exact ⟨h.li, h.ld, h.ls, h.lc⟩
theorem impl_sr.inv_pull {v : impl_sd.V} (h : impl_sr.Inv v) (n : Int) : impl_sr.Inv (impl_sd.pull v n).2 ∧ (impl_sd.pull v n).1.f1 = 0 := by
  unfold impl_sd.pull
  by_cases c : n < 1 ∨ 1500 < n
  · rw [if_pos c]; exact ⟨h, rfl⟩
  · rw [if_neg c]
    cases hb : (impl_sd.next v n).2.2 with
    | false => rw [if_pos rfl]; exact ⟨h, rfl⟩
    | true =>
      rw [if_neg (by simp)]
      obtain ⟨o, z, e1, e2, hoz⟩ := impl_sd.next_ok v n h.ls (by omega) hb
      rw [e1, e2]
      dsimp only
      rw [Int.toNat_natCast, Int.toNat_natCast]
      have h1 := h.li
      have h2 := h.ls
      by_cases c2 : (v.finish && (o + z == v.data.length) && (v.fin != 2)) = true
      · rw [if_pos c2]; exact ⟨⟨by dsimp only; rw [impl_sd.away_len]; exact h1, h.ld, by dsimp only; omega, h.lc⟩, rfl⟩
      · rw [if_neg c2]
        by_cases c3 : v.st = 0
        · rw [if_pos c3]; exact ⟨⟨by dsimp only; rw [impl_sd.away_len]; exact h1, h.ld, by dsimp only; omega, h.lc⟩, rfl⟩
        · rw [if_neg c3]; exact ⟨⟨by dsimp only; rw [impl_sd.away_len]; exact h1, h.ld, by dsimp only; omega, h.lc⟩, rfl⟩
theorem impl_sr.inv_heard {v : impl_sd.V} (h : impl_sr.Inv v) (off n : Int) (fn ac : Bool) : impl_sr.Inv (impl_sd.heard v off n fn ac).2 := by
  unfold impl_sd.heard
  by_cases c : off < 0 ∨ n < 0 ∨ (v.sent : Int) < off ∨ (v.sent : Int) - off < n
  · rw [if_pos c]; exact h
  · rw [if_neg c]
    by_cases c2 : fn = true ∧ (v.fin = 0 ∨ off + n ≠ (v.data.length : Int))
    · rw [if_pos c2]; exact h
    · rw [if_neg c2]
      by_cases c3 : 2 < v.st
      · rw [if_pos c3]; exact h
      · rw [if_neg c3]
        dsimp only
        generalize (if fn = true then impl_sd.turn ac v.fin else v.fin) = y
        by_cases c4 : y = 2 ∧ impl_sd.acked (impl_sd.told ac v.is off.toNat n.toNat) = true
        · rw [if_pos c4]; exact ⟨by dsimp only; rw [impl_sd.told_len]; exact h.li, h.ld, h.ls, h.lc⟩
        · rw [if_neg c4]; exact ⟨by dsimp only; rw [impl_sd.told_len]; exact h.li, h.ld, h.ls, h.lc⟩
theorem impl_sr.inv_step {v v2 : impl_sd.V} (h : impl_sr.Inv v) {o : S25} {ob : S33} (hs : impl_sd.step v o = some (ob, v2)) : impl_sr.Inv v2 := by
  unfold impl_sd.step at hs
  dsimp only at hs
  repeat' split at hs
  all_goals first
    | (cases hs; done)
    | (simp only [Option.some.injEq, Prod.mk.injEq] at hs; obtain ⟨_, rfl⟩ := hs; first | exact impl_sr.inv_write h _ | exact impl_sr.inv_finished h | exact (impl_sr.inv_pull h _).1 | exact impl_sr.inv_heard h _ _ _ _ | exact h | exact ⟨h.li, h.ld, h.ls, by have := h.lc; dsimp only; omega⟩)
theorem impl_sr.run_cons {os : List (S25)} {v : impl_sd.V} {acc out : List (S33)} {i : Nat} (hi : i < os.length) (h : impl_sd.run (os.drop i) v acc = some out) : ∃ ob v2, impl_sd.step v (rd_T25 os (i : Int)) = some (ob, v2) ∧ impl_sd.run (os.drop (i + 1)) v2 (acc ++ [ob]) = some out := by
  rw [List.drop_eq_getElem_cons hi] at h
  have e : rd_T25 os (i : Int) = os[i] := by
    show os.getD (i : Int).toNat z25 = os[i]
    rw [Int.toNat_natCast, List.getD_eq_getElem?_getD, List.getElem?_eq_getElem hi]
    rfl
  obtain ⟨⟨ob, v2⟩, h1, h2⟩ := Option.bind_eq_some_iff.1 h
  exact ⟨ob, v2, by rw [e]; exact h1, h2⟩
theorem impl_sr.run_nil {os : List (S25)} {v : impl_sd.V} {acc out : List (S33)} {i : Nat} (hi : ¬ i < os.length) (h : impl_sd.run (os.drop i) v acc = some out) : acc = out := by
  rw [List.drop_eq_nil_of_le (by omega)] at h
  exact Option.some.inj h
/-- The sender's blocks alone matter. -/
theorem impl_sd.St.step {W W1 : World} {base g : Nat} {v : impl_sd.V} {vd vi : Value} (h : impl_sd.St W base g v vd vi) (hk : ∀ k, (k = g ∨ vd.ownBlock = some k ∨ vi.ownBlock = some k) → k < W.heap.size → W1.heap[k]? = W.heap[k]?) : impl_sd.St W1 base g v vd vi :=
  ⟨(hk g (.inl rfl) (blk_lt h.s)).trans h.s,
   Kd.R_mono (Kd.R_step (Kd.R_of_own (ok := fun k => (k ≠ g ∧ some k ≠ vi.ownBlock) ∧ vd.ownBlock = some k) (Kd.own_of_R h.d) (fun k hk => ⟨h.d.1 k hk, hk⟩)) (fun k ho hl => hk k (.inr (.inl ho.2)) hl)) (fun _ hk => hk.1),
   Kd.R_mono (Kd.R_step (Kd.R_of_own (ok := fun k => (k ≠ g ∧ some k ≠ vd.ownBlock) ∧ vi.ownBlock = some k) (Kd.own_of_R h.i) (fun k hk => ⟨h.i.1 k hk, hk⟩)) (fun k ho hl => hk k (.inr (.inr ho.2)) hl)) (fun _ hk => hk.1), h.b⟩
/-- The loop's state: the sending part; the row of what it told; the bytes that the last pull took. -/
structure impl_sr.Lp (w0 W : World) (g : Nat) (v : impl_sd.V) (vd vi : Value) (L : List Nat) (vo : Value) (acc : List (S33)) (va : Value) (r : List Int) : Prop where
  st : impl_sd.St W w0.heap.size g v vd vi
  sep : ∃ N, Kd.S k33 33 W w0.heap.size (fun k => ((∀ x ∈ L, k ≠ x) ∧ some k ≠ vd.ownBlock ∧ some k ≠ vi.ownBlock) ∧ k < N) vo acc ∧ (Kd.int .u8).R 5 W w0.heap.size (fun k => ((∀ x ∈ L, k ≠ x) ∧ some k ≠ vd.ownBlock ∧ some k ≠ vi.ownBlock) ∧ some k ≠ vo.ownBlock ∧ N ≤ k) va r
  bl : Below w0.heap.size w0 W
  gL : g ∈ L
  hL : ∀ x ∈ L, w0.heap.size ≤ x ∧ x < W.heap.size
  nL : ∀ x ∈ L, some x ≠ vd.ownBlock ∧ some x ≠ vi.ownBlock
section
variable {w0 W W1 : World} {g : Nat} {v v2 : impl_sd.V} {vd vi vd2 vi2 : Value} {L : List Nat} {vo va : Value} {acc : List (S33)} {r : List Int}
theorem impl_sr.Lp.row (h : impl_sr.Lp w0 W g v vd vi L vo acc va r) : Kd.S k33 33 W w0.heap.size (fun k => (∀ x ∈ L, k ≠ x) ∧ some k ≠ vd.ownBlock ∧ some k ≠ vi.ownBlock) vo acc := by
  obtain ⟨N, h1, _⟩ := h.sep
  exact Kd.S_mono h1 (fun _ hk => hk.1)
theorem impl_sr.Lp.dat (h : impl_sr.Lp w0 W g v vd vi L vo acc va r) : (Kd.int .u8).R 5 W w0.heap.size (fun k => ((∀ x ∈ L, k ≠ x) ∧ some k ≠ vd.ownBlock ∧ some k ≠ vi.ownBlock) ∧ some k ≠ vo.ownBlock) va r := by
  obtain ⟨N, _, h2⟩ := h.sep
  exact Kd.R_mono h2 (fun _ hk => ⟨hk.1, hk.2.1⟩)
theorem impl_sr.Lp.below (h : impl_sr.Lp w0 W g v vd vi L vo acc va r) (hb : Below W.heap.size W W1) : impl_sr.Lp w0 W1 g v vd vi L vo acc va r :=
  ⟨h.st.below hb, h.sep.imp (fun N hh => ⟨Kd.S_below hh.1 hb, Kd.R_below hh.2 hb⟩), below_step h.bl hb, h.gL, fun x hx => ⟨(h.hL x hx).1, Nat.lt_of_lt_of_le (h.hL x hx).2 hb.size⟩, h.nL⟩
theorem impl_sr.Lp.drew (h : impl_sr.Lp w0 W g v vd vi L vo acc va r) : impl_sr.Lp w0 W.drew g v vd vi L vo acc va r := h.below (below_drew1 (Below.refl _ _))
theorem impl_sr.Lp.drewN (h : impl_sr.Lp w0 W g v vd vi L vo acc va r) (m : Nat) : impl_sr.Lp w0 (W.drewN m) g v vd vi L vo acc va r := h.below (pw_below_drewN (Below.refl _ _) m)
theorem impl_sr.Lp.alloc (h : impl_sr.Lp w0 W g v vd vi L vo acc va r) (o : Obj) : impl_sr.Lp w0 (W.alloc o) g v vd vi L vo acc va r := h.below (below_alloc (Below.refl _ _) o)
theorem impl_sr.Lp.box (h : impl_sr.Lp w0 W g v vd vi L vo acc va r) (hb : Below W.heap.size W W1) {x : Nat} (hx : x = W.heap.size) {o : Obj} (ho : W1.heap[x]? = some o) : impl_sr.Lp w0 W1 g v vd vi (x :: L) vo acc va r := by
  have h2 := h.below hb
  have hlt := blk_lt ho
  subst hx
  obtain ⟨N, s1, s2⟩ := h.sep
  have key : ∀ k, k < W.heap.size → (∀ x ∈ L, k ≠ x) → ∀ x ∈ W.heap.size :: L, k ≠ x := fun k hk hh x hx => by
    rcases List.mem_cons.1 hx with rfl | hx
    · exact Nat.ne_of_lt hk
    · exact hh x hx
  refine ⟨h2.st, ⟨N, Kd.S_below (Kd.S_mono (Kd.S_bound s1) (fun k hk => ⟨⟨key k hk.2.2.1 hk.1.1.1, hk.1.1.2⟩, hk.1.2⟩)) hb, Kd.R_below (Kd.R_mono (Kd.R_bound s2) (fun k hk => ⟨⟨key k hk.2.2.1 hk.1.1.1, hk.1.1.2⟩, hk.1.2⟩)) hb⟩, h2.bl, List.mem_cons_of_mem _ h.gL, fun x hx => ?_, fun x hx => ?_⟩
  · rcases List.mem_cons.1 hx with rfl | hx
    · exact ⟨h.bl.size, hlt⟩
    · exact h2.hL x hx
  · rcases List.mem_cons.1 hx with rfl | hx
    · exact ⟨fun e => Nat.lt_irrefl _ (Kd.R_lt h.st.d _ e.symm), fun e => Nat.lt_irrefl _ (Kd.R_lt h.st.i _ e.symm)⟩
    · exact h.nL x hx
theorem impl_sr.Lp.ne (h : impl_sr.Lp w0 W g v vd vi L vo acc va r) {x : Nat} (hx : x = W.heap.size) : ∀ y ∈ L, x ≠ y := fun y hy => by have := (h.hL y hy).2; omega
theorem impl_sr.Lp.fresh (h : impl_sr.Lp w0 W g v vd vi L vo acc va r) : ∀ k, W.heap.size ≤ k → (∀ x ∈ L, k ≠ x) ∧ some k ≠ vd.ownBlock ∧ some k ≠ vi.ownBlock := fun k hk => ⟨fun y hy => by have := (h.hL y hy).2; omega, fun e => by have := Kd.R_lt h.st.d _ e.symm; omega, fun e => by have := Kd.R_lt h.st.i _ e.symm; omega⟩
theorem impl_sr.Lp.set (h : impl_sr.Lp w0 W g v vd vi L vo acc va r) {x : Nat} (hx : x ∈ L) (h1 : x ≠ g) (j : Nat) (u : Value) : impl_sr.Lp w0 (W.setCell ⟨x, j, none⟩ u) g v vd vi L vo acc va r :=
  ⟨h.st.far h1 (fun k hk e => (h.nL x hx).1 (by rw [← e]; exact hk.symm)) (fun k hk e => (h.nL x hx).2 (by rw [← e]; exact hk.symm)) j u, h.sep.imp (fun N hh => ⟨Kd.S_far hh.1 (fun k hk => hk.1.1 x hx) u, Kd.R_far hh.2 (fun k hk => hk.1.1 x hx) u⟩), h.bl.setCell (h.hL x hx).1 u, h.gL, fun y hy => ⟨(h.hL y hy).1, by have := (h.hL y hy).2; simpa [World.setCell] using this⟩, h.nL⟩
theorem impl_sr.Lp.putg (h : impl_sr.Lp w0 W g v vd vi L vo acc va r) (j : Nat) (u : Value)
    (e : (#[.int .i64 v.st, .int .i64 v.credit, vd, vi, .int .i64 (v.sent : Int), .bool v.finish, .int .u8 v.fin] : Array Value).setIfInBounds j u = #[.int .i64 v2.st, .int .i64 v2.credit, vd, vi, .int .i64 (v2.sent : Int), .bool v2.finish, .int .u8 v2.fin]) (ed : v2.data = v.data) (ei : v2.is = v.is) : impl_sr.Lp w0 (W.setCell ⟨g, j, none⟩ u) g v2 vd vi L vo acc va r :=
  ⟨h.st.set j u e ed ei, h.sep.imp (fun N hh => ⟨Kd.S_far hh.1 (fun k hk => hk.1.1 g h.gL) u, Kd.R_far hh.2 (fun k hk => hk.1.1 g h.gL) u⟩), h.bl.setCell (h.hL g h.gL).1 u, h.gL, fun y hy => ⟨(h.hL y hy).1, by have := (h.hL y hy).2; simpa [World.setCell] using this⟩, h.nL⟩
theorem impl_sr.Lp.kp_ne {w : World} {u u' : Value} (hu : u'.ownBlock = u.ownBlock ∨ ∃ b, u'.ownBlock = some b ∧ w.heap.size ≤ b) : ∀ q, q < w.heap.size → some q ≠ u.ownBlock → some q ≠ u'.ownBlock := fun q hq hn he => by
  rcases hu with hu | ⟨b, hb, hle⟩
  · exact hn (he.trans hu)
  · rw [hb] at he
    injection he with he
    omega
theorem impl_sr.Lp.call (h : impl_sr.Lp w0 W g v vd vi L vo acc (.slice none 0 0) []) (hs : impl_sd.St W1 w0.heap.size g v2 vd2 vi2) (hk : impl_sd.Kp W W1 w0.heap.size g vd vi vd2 vi2) : impl_sr.Lp w0 W1 g v2 vd2 vi2 L vo acc (.slice none 0 0) [] :=
  ⟨hs, h.sep.imp (fun N hh => ⟨Kd.S_mono (Kd.S_step (Kd.S_bound hh.1) (fun k ho hl => hk.kb k hl (ho.1.1.1 g h.gL) ho.1.1.2.1 ho.1.1.2.2)) (fun k hk2 => ⟨⟨hk2.1.1.1, impl_sr.Lp.kp_ne hk.nd k hk2.2.2.1 hk2.1.1.2.1, impl_sr.Lp.kp_ne hk.ni k hk2.2.2.1 hk2.1.1.2.2⟩, hk2.1.2⟩), Kd.R_nil _ _ _ _ _⟩), h.bl.trans hk.bl, h.gL, fun x hx => ⟨(h.hL x hx).1, Nat.lt_of_lt_of_le (h.hL x hx).2 hk.sz⟩, fun x hx => ⟨impl_sr.Lp.kp_ne hk.nd x (h.hL x hx).2 (h.nL x hx).1, impl_sr.Lp.kp_ne hk.ni x (h.hL x hx).2 (h.nL x hx).2⟩⟩
theorem impl_sr.Lp.took (h : impl_sr.Lp w0 W g v vd vi L vo acc (.slice none 0 0) []) (hr : (Kd.int .u8).R 5 W1 W.heap.size (fun _ => True) va r) (hs : impl_sd.St W1 w0.heap.size g v2 vd vi) (hk : impl_sd.Kp W W1 w0.heap.size g vd vi vd vi) : impl_sr.Lp w0 W1 g v2 vd vi L vo acc va r := by
  have h2 := h.call hs hk
  refine ⟨h2.st, ⟨W.heap.size, ?_, ?_⟩, h2.bl, h2.gL, h2.hL, h2.nL⟩
  · exact Kd.S_mono (Kd.S_step (Kd.S_bound h.row) (fun k ho hl => hk.kb k hl (ho.1.1 g h.gL) ho.1.2.1 ho.1.2.2)) (fun k hk2 => ⟨hk2.1, hk2.2.2.1⟩)
  · exact Kd.R_lower (Kd.R_mono (Kd.R_bound hr) (fun k hk2 => ⟨h.fresh k hk2.2.1, fun e => by have := Kd.S_lt h.row k e.symm; have := hk2.2.1; omega, hk2.2.1⟩)) h.bl.size
theorem impl_sr.Lp.nodat (h : impl_sr.Lp w0 W g v vd vi L vo acc va r) : impl_sr.Lp w0 W g v vd vi L vo acc (.slice none 0 0) [] := ⟨h.st, h.sep.imp (fun N hh => ⟨hh.1, Kd.R_nil _ _ _ _ _⟩), h.bl, h.gL, h.hL, h.nL⟩
theorem impl_sr.Lp.app {v1 : Value} {acc2 : List (S33)} (h : impl_sr.Lp w0 W g v vd vi L vo acc va r) (ho : Kd.S k33 33 W1 w0.heap.size (fun k => (∀ x ∈ L, k ≠ x) ∧ some k ≠ vd.ownBlock ∧ some k ≠ vi.ownBlock) v1 acc2) (hb : Below w0.heap.size w0 W1) (hg : W.grownBy W1 vo.ownBlock) : impl_sr.Lp w0 W1 g v vd vi L v1 acc2 (.slice none 0 0) [] := by
  have hvo := (Kd.S_R h.row).1
  refine ⟨h.st.step (fun k hk hl => hg.block k hl (fun e => ?_)), ⟨W1.heap.size, Kd.S_mono (Kd.S_bound ho) (fun k hk => ⟨hk.1, hk.2.2.1⟩), Kd.R_nil _ _ _ _ _⟩, hb, h.gL, fun x hx => ⟨(h.hL x hx).1, Nat.lt_of_lt_of_le (h.hL x hx).2 hg.size⟩, h.nL⟩
  obtain ⟨n1, n2, n3⟩ := hvo k e.symm
  rcases hk with rfl | hk | hk
  · exact n1 k h.gL rfl
  · exact n2 hk.symm
  · exact n3 hk.symm
theorem impl_sr.Lp.first {W W1 : World} (hs : impl_sd.St W w0.heap.size g v (.slice none 0 0) (.slice none 0 0)) (hg : w0.heap.size ≤ g) (hB : Below w0.heap.size w0 W) (ho : Kd.S k33 33 W1 W.heap.size (fun _ => True) vo acc) (hb1 : Below W.heap.size W W1) : impl_sr.Lp w0 W1 g v (.slice none 0 0) (.slice none 0 0) [g] vo acc (.slice none 0 0) [] := by
  have h1 := blk_lt hs.s
  have hz := hb1.size
  refine ⟨hs.below hb1, ⟨W1.heap.size, Kd.S_lower (Kd.S_mono (Kd.S_bound ho) (fun k hk => ⟨⟨fun x hx => ?_, by simp [Value.ownBlock], by simp [Value.ownBlock]⟩, hk.2.2.1⟩)) hB.size, Kd.R_nil _ _ _ _ _⟩, below_step hB hb1, by simp, fun x hx => ?_, fun x hx => ⟨by simp [Value.ownBlock], by simp [Value.ownBlock]⟩⟩
  · have := hk.2.1
    rw [List.mem_singleton.1 hx]; omega
  · rw [List.mem_singleton.1 hx]; exact ⟨hg, by omega⟩
theorem impl_sr.Lp.fewer (h : impl_sr.Lp w0 W g v vd vi L vo acc va r) {L2 : List Nat} (hL : ∀ x ∈ L2, x ∈ L) (hg : g ∈ L2) : impl_sr.Lp w0 W g v vd vi L2 vo acc va r :=
  ⟨h.st, h.sep.imp (fun N hh => ⟨Kd.S_mono hh.1 (fun k hk => ⟨⟨fun x hx => hk.1.1 x (hL x hx), hk.1.2⟩, hk.2⟩), Kd.R_mono hh.2 (fun k hk => ⟨⟨fun x hx => hk.1.1 x (hL x hx), hk.1.2⟩, hk.2⟩)⟩), h.bl, hg, fun x hx => h.hL x (hL x hx), fun x hx => h.nL x (hL x hx)⟩
end
theorem impl_sr.c5 {W : World} {g t : Nat} {a0 a1 a2 a3 a4 : Value} (h : W.heap[g]? = some (.cells #[a0, a1, a2, a3, a4] t (0, 0))) :
    W.cell? ⟨g, 0, none⟩ = some a0 ∧ W.frozen? ⟨g, 0, none⟩ = false ∧ W.cell? ⟨g, 1, none⟩ = some a1 ∧ W.frozen? ⟨g, 1, none⟩ = false ∧ W.cell? ⟨g, 2, none⟩ = some a2 ∧ W.frozen? ⟨g, 2, none⟩ = false ∧ W.cell? ⟨g, 3, none⟩ = some a3 ∧ W.frozen? ⟨g, 3, none⟩ = false ∧ W.cell? ⟨g, 4, none⟩ = some a4 ∧ W.frozen? ⟨g, 4, none⟩ = false :=
  ⟨(blk_cell h 0).trans rfl, blk_frozen h 0, (blk_cell h 1).trans rfl, blk_frozen h 1, (blk_cell h 2).trans rfl, blk_frozen h 2, (blk_cell h 3).trans rfl, blk_frozen h 3, (blk_cell h 4).trans rfl, blk_frozen h 4⟩
set_option maxHeartbeats 8000000 in
set_option maxRecDepth 100000 in
theorem impl_sr.calls (A0 : Option Addr) (c0 : Nat) (ops : List (S25)) (out : List (S33)) (w : World) (hr0 : Kd.C k25 w A0 ops.length ops) (hc0 : ops.length ≤ c0) (hl : ops.length ≤ 400)
    (h : impl_sd.run ops ⟨0, 0, [], [], 0, false, 0⟩ [] = some out) :
    Calls Try.prog 6 #[.slice A0 ops.length c0] w fun e w' => ∃ v0, e = .returned (.tuple #[v0, .int .i64 0]) ∧ Kd.S k33 33 w' w.heap.size (fun _ => True) v0 out ∧ Below w.heap.size w w' := by
  have HR := Aside0.mk hr0
  have HC := Aside0.mk hc0
  have HLN := Aside0.mk hl
  have q1 : decide (400 < (ops.length : Int)) = false := decide_eq_false (by omega)
  have H := Aside0.mk h
  clear hr0 hc0 hl h
  go_enter Try.func6, Try.ntmps6
  go_upto_block 0 with (first | ((with_reducible refine gate_dst (N := 13) rfl ?_); refine box_event ?hg (N := 13) ?hd (cs := #[.int .i64 0, .int .i64 0, .slice none 0 0, .slice none 0 0, .int .i64 0, .bool false, .int .u8 0]) (t := 43) ?hr ?_; (case hd => rfl); (case hg => rfl); (case hr => first | (go_simp; done) | (go_simp; rfl)); intro g hg w1 hbox hb; have HB := am (show Below w.heap.size w w1 from below_step (by repeat (first | (with_reducible first | exact Below.refl _ _ | apply below_alloc | apply pw_below_drewN | apply below_drew1) | exact Below.refl _ _)) hb); have HGG := am (show w.heap.size ≤ g from Nat.le_of_eq hg.symm); have HS := am (show impl_sd.St w1 w.heap.size g ⟨0, 0, [], [], 0, false, 0⟩ (.slice none 0 0) (.slice none 0 0) from ⟨hbox, Kd.R_nil _ _ _ _ _, Kd.R_nil _ _ _ _ _, HGG.out⟩); clear hg hbox hb) | ((with_reducible refine gate_dst (N := 14) rfl ?_); refine Kd.S_lit k33 _ 33 ?hg (N := 14) ?hd (xs := ([] : List (S33))) (inner := []) (ok := fun _ => True) (okp := fun _ => True) ?hr ?hp (fun _ hk => hk) trivial (Below.refl _ _) (Nat.le_refl _) (by simp) ?_; (case hd => rfl); (case hg => rfl); (case hr => first | (go_simp; done) | (go_simp; rfl)); (case hp => exact (Reps.none _ _)); intro vo w3 ho hb hg_ hnew_; have HL := am (impl_sr.Lp.first (by with_reducible repeat (first | exact HS.out | apply impl_sd.St.drewN | apply impl_sd.St.drew)) HGG.out (hq HB.out) ho hb); clear HS HB ho hb hg_ hnew_))
  go_wp2
  go_loopg [5, 17] ops.length (fun kq vo v17 wr => ∃ (x : Nat) (v : impl_sd.V) (vd vi : Value) (acc : List (S33)) (va : Value) (r : List Int), v17 = .int .i64 (x : Int) ∧ Aside0 (x + kq = ops.length) ∧ Aside0 (impl_sr.Inv v) ∧ Aside0 (acc.length = x) ∧ Aside0 (impl_sd.run (ops.drop x) v acc = some out) ∧ Aside0 (impl_sr.Lp w wr g v (vd) (vi) [g] vo acc (va) r))
  case atStart => exact ⟨0, _, _, _, _, _, _, rfl, ⟨Nat.zero_add _⟩, ⟨⟨rfl, by simp, Nat.le_refl _, Int.le_refl _⟩⟩, ⟨rfl⟩, H, HL⟩
  case round =>
    clear H HL
    obtain ⟨x, v, vd, vi, acc, va, r, rfl, HI, HV, HA, H, HL⟩ := hrel
    by_cases c7 : x < ops.length
    · have q7 : decide ((x : Int) < (ops.length : Int)) = true := decide_eq_true (by omega)
      cases gk with
      | zero => exact absurd HI.out (by omega)
      | succ k1 =>
        obtain ⟨ob, v2, hst, hrun⟩ := impl_sr.run_cons c7 H.out
        have HV2 := am (impl_sr.inv_step HV.out hst)
        have HST := Aside0.mk hst
        have HRUN := Aside0.mk hrun
        clear H hst hrun
        have p0 : (0 : Int) ≤ (x : Int) := by omega
        have p1 : (x : Int) < (ops.length : Int) := by omega
        obtain ⟨ad, A3, c3, ea, x0, x1, x2, x3, x4, l3, g3⟩ := at_T25 HR.out (x : Int) p0 p1
        obtain ⟨o, ho⟩ : ∃ o, o = rd_T25 ops (x : Int) := ⟨_, rfl⟩
        rw [← ho] at x0 x1 x2 x3 x4 l3 g3 HST
        clear ho
        subst ea
        obtain ⟨f0, f1, f2, f3, f4⟩ := o
        dsimp only at x0 x1 x2 x3 x4 l3 g3
        replace x0 := (HL.out.bl.cell (World.block_lt_of_cell? w _ x0)).trans x0
        replace x1 := (HL.out.bl.cell (World.block_lt_of_cell? w _ x1)).trans x1
        replace x2 := (HL.out.bl.cell (World.block_lt_of_cell? w _ x2)).trans x2
        replace x3 := (HL.out.bl.cell (World.block_lt_of_cell? w _ x3)).trans x3
        replace x4 := (HL.out.bl.cell (World.block_lt_of_cell? w _ x4)).trans x4
        simp only [Int.toNat_natCast] at x0 x1 x2 x3 x4
        have HL3 := Aside0.mk l3
        have HG3 := Aside0.mk g3
        clear l3 g3
        have q7n : decide (x < ops.length) = true := decide_eq_true c7
        clear c7
        obtain ⟨st, credit, data_, is_, sent, finish, fin⟩ := v
        go_upto_region 8 with (first | ((with_reducible refine gate_dst (N := 7) rfl ?_); refine box_event ?hg (N := 7) ?hd (cs := #[.int .i64 0, .int .i64 0, .int .i64 0, .slice none 0 0, .bool false]) (t := 25) ?hr ?_; (case hd => rfl); (case hg => rfl); (case hr => first | (go_simp; done) | (go_simp; rfl)); intro g7 hg w5 hbox hb; have n1_ := am (impl_sr.Lp.box (show impl_sr.Lp w _ g ⟨st, credit, data_, is_, sent, finish, fin⟩ (vd) (vi) [g] u5 acc (va) r from by (with_reducible repeat (first | apply impl_sr.Lp.drewN | apply impl_sr.Lp.drew | apply impl_sr.Lp.alloc)); exact HL.out) hb hg hbox); have NG7 := am (impl_sr.Lp.ne (show impl_sr.Lp w _ g ⟨st, credit, data_, is_, sent, finish, fin⟩ (vd) (vi) [g] u5 acc (va) r from by (with_reducible repeat (first | apply impl_sr.Lp.drewN | apply impl_sr.Lp.drew | apply impl_sr.Lp.alloc)); exact HL.out) hg); clear HL; have HL := n1_; clear n1_; have BX7 := Aside0.mk hbox; obtain ⟨z7_0, q7_0, z7_1, q7_1, z7_2, q7_2, z7_3, q7_3, z7_4, q7_4⟩ := impl_sr.c5 hbox; clear hb hg hbox))
        refine impl_sd.cwp_seal (fun W_ => impl_sr.Lp w W_ g ⟨st, credit, data_, is_, sent, finish, fin⟩ (vd) (vi) [g7, g] u5 acc (va) r ∧ W_.heap[g7]? = some (.cells #[.int .i64 f0, .int .i64 f1, .int .i64 f2, .slice A3 f3.length c3, .bool f4] 25 (0, 0))) ⟨(by (with_reducible repeat (first | exact HL.out | apply impl_sr.Lp.drewN | apply impl_sr.Lp.drew | apply impl_sr.Lp.alloc | refine impl_sr.Lp.set ?_ (x := g7) (by simp) (NG7.out g (by simp)) _ _)); done), (bu (blk_put (cs := #[.int .i64 f0, .int .i64 f1, .int .i64 f2, .slice A3 f3.length c3, .bool false]) (bu (blk_put (cs := #[.int .i64 f0, .int .i64 f1, .int .i64 f2, .slice none 0 0, .bool false]) (bu (blk_put (cs := #[.int .i64 f0, .int .i64 f1, .int .i64 0, .slice none 0 0, .bool false]) (bu (blk_put (cs := #[.int .i64 f0, .int .i64 0, .int .i64 0, .slice none 0 0, .bool false]) (bu (blk_put (cs := #[.int .i64 0, .int .i64 0, .int .i64 0, .slice none 0 0, .bool false]) (bq BX7.out) 0 _ rfl)) 1 _ rfl)) 2 _ rfl)) 3 _ rfl)) 4 _ rfl))⟩ ?_
        clear HL BX7 z7_0 q7_0 z7_1 q7_1 z7_2 q7_2 z7_3 q7_3 z7_4 q7_4
        rintro w6 ⟨h1_, h2_⟩
        have HL := Aside0.mk h1_.nodat
        have BX7 := Aside0.mk h2_
        clear h1_ h2_
        obtain ⟨z7_0, q7_0, z7_1, q7_1, z7_2, q7_2, z7_3, q7_3, z7_4, q7_4⟩ := impl_sr.c5 BX7.out
        go_upto_block 2 with (first | ((with_reducible refine gate_dst (N := 8) rfl ?_); refine box_event ?hg (N := 8) ?hd (cs := #[.int .i64 0, .int .i64 0, .int .i64 0, .slice none 0 0, .bool false, .bool false, .bool false]) (t := 33) ?hr ?_; (case hd => rfl); (case hg => rfl); (case hr => first | (go_simp; done) | (go_simp; rfl)); intro g8 hg w7 hbox hb; have NG78 := am (show g7 ≠ g8 from by rw [hg]; exact Nat.ne_of_lt (blk_lt (show _ = some (.cells #[.int .i64 f0, .int .i64 f1, .int .i64 f2, .slice A3 f3.length c3, .bool f4] 25 (0, 0)) from by (with_reducible repeat (first | refine blk_drewN ?_ _ | refine blk_drew ?_ | refine blk_alloc ?_ _)); exact BX7.out))); have m9_ := am (blk_below (show _ = some (.cells #[.int .i64 f0, .int .i64 f1, .int .i64 f2, .slice A3 f3.length c3, .bool f4] 25 (0, 0)) from by (with_reducible repeat (first | refine blk_drewN ?_ _ | refine blk_drew ?_ | refine blk_alloc ?_ _)); exact BX7.out) hb); clear BX7; have BX7 := m9_; clear m9_; clear z7_0 q7_0 z7_1 q7_1 z7_2 q7_2 z7_3 q7_3 z7_4 q7_4; obtain ⟨z7_0, q7_0, z7_1, q7_1, z7_2, q7_2, z7_3, q7_3, z7_4, q7_4⟩ := impl_sr.c5 BX7.out; have NX7_ : g7 ≠ g8 := NG78.out; have NX8_ : g8 ≠ g7 := NG78.out.symm; have n1_ := am (impl_sr.Lp.box (show impl_sr.Lp w _ g ⟨st, credit, data_, is_, sent, finish, fin⟩ (vd) (vi) [g7, g] u5 acc (.slice none 0 0) [] from by (with_reducible repeat (first | apply impl_sr.Lp.drewN | apply impl_sr.Lp.drew | apply impl_sr.Lp.alloc)); exact HL.out) hb hg hbox); have NG8 := am (impl_sr.Lp.ne (show impl_sr.Lp w _ g ⟨st, credit, data_, is_, sent, finish, fin⟩ (vd) (vi) [g7, g] u5 acc (.slice none 0 0) [] from by (with_reducible repeat (first | apply impl_sr.Lp.drewN | apply impl_sr.Lp.drew | apply impl_sr.Lp.alloc)); exact HL.out) hg); clear HL; have HL := n1_; clear n1_; have BX8 := Aside0.mk hbox; obtain ⟨z8_0, q8_0, z8_1, q8_1, z8_2, q8_2, z8_3, q8_3, z8_4, q8_4, z8_5, q8_5, z8_6, q8_6⟩ := impl_sd.c7 hbox; clear hb hg hbox))
        refine impl_sd.cwp_seal (fun W_ => impl_sr.Lp w W_ g ⟨st, credit, data_, is_, sent, finish, fin⟩ (vd) (vi) [g8, g7, g] u5 acc (.slice none 0 0) [] ∧ W_.heap[g7]? = some (.cells #[.int .i64 f0, .int .i64 f1, .int .i64 f2, .slice A3 f3.length c3, .bool f4] 25 (0, 0)) ∧ W_.heap[g8]? = some (.cells #[.int .i64 0, .int .i64 0, .int .i64 0, .slice none 0 0, .bool false, .bool false, .bool false] 33 (0, 0))) ⟨(by (with_reducible repeat (first | exact HL.out | apply impl_sr.Lp.drewN | apply impl_sr.Lp.drew | apply impl_sr.Lp.alloc | refine impl_sr.Lp.set ?_ (x := g8) (by simp) (NG8.out g (by simp)) _ _)); done), by (with_reducible repeat (first | refine blk_drewN ?_ _ | refine blk_drew ?_ | refine blk_alloc ?_ _ | refine blk_far ?_ NG78.out _)); exact BX7.out, (bu (blk_put (cs := #[.int .i64 0, .int .i64 0, .int .i64 0, .slice none 0 0, .bool false, .bool false, .bool false]) (bu (blk_put (cs := #[.int .i64 0, .int .i64 0, .int .i64 0, .slice none 0 0, .bool false, .bool false, .bool false]) (bu (blk_put (cs := #[.int .i64 0, .int .i64 0, .int .i64 0, .slice none 0 0, .bool false, .bool false, .bool false]) (bu (blk_put (cs := #[.int .i64 0, .int .i64 0, .int .i64 0, .slice none 0 0, .bool false, .bool false, .bool false]) (bu (blk_put (cs := #[.int .i64 0, .int .i64 0, .int .i64 0, .slice none 0 0, .bool false, .bool false, .bool false]) (bu (blk_put (cs := #[.int .i64 0, .int .i64 0, .int .i64 0, .slice none 0 0, .bool false, .bool false, .bool false]) (bu (blk_put (cs := #[.int .i64 0, .int .i64 0, .int .i64 0, .slice none 0 0, .bool false, .bool false, .bool false]) (bq BX8.out) 0 _ rfl)) 1 _ rfl)) 2 _ rfl)) 3 _ rfl)) 4 _ rfl)) 5 _ rfl)) 6 _ rfl))⟩ ?_
        clear HL BX7 BX8 NX7_ NX8_ z7_0 q7_0 z7_1 q7_1 z7_2 q7_2 z7_3 q7_3 z7_4 q7_4 z8_0 q8_0 z8_1 q8_1 z8_2 q8_2 z8_3 q8_3 z8_4 q8_4 z8_5 q8_5 z8_6 q8_6
        rintro w8 ⟨h1_, h2_, h3_⟩
        have HL := Aside0.mk h1_
        have BX7 := Aside0.mk h2_
        have BX8 := Aside0.mk h3_
        clear h1_ h2_ h3_
        go_cut [] from 24 to 101 (fun wc => ∃ (vd2 vi2 va2 : Value), Aside0 (impl_sr.Lp w wc g v2 (vd2) (vi2) [g8, g7, g] u5 acc (va2) ob.f3) ∧ Aside0 (wc.heap[g8]? = some (.cells #[.int .i64 ob.f0, .int .i64 0, .int .i64 ob.f2, va2, .bool ob.f4, .bool ob.f5, .bool ob.f6] 33 (0, 0))) ∧ ob.f1 = v2.st)
        case first =>
          clear HRUN
          obtain ⟨z7_0, q7_0, z7_1, q7_1, z7_2, q7_2, z7_3, q7_3, z7_4, q7_4⟩ := impl_sr.c5 BX7.out
          have hst := HST.out
          clear HST
          unfold impl_sd.step at hst
          dsimp only at hst
          obtain ⟨Ad, cd, rfl⟩ := Kd.R_slice HL.out.st.d
          obtain ⟨Ai, ci, rfl⟩ := Kd.R_slice HL.out.st.i
          dsimp only at HL
          obtain ⟨hvi, hvd, hvs, hvc⟩ := HV.out
          dsimp only at hvi hvd hvs hvc
          have HVV := am (And.intro hvi (And.intro hvd (And.intro hvs hvc)))
          clear hvi hvd hvs hvc
          by_cases k1_ : f0 = 1
          · rw [if_pos k1_] at hst
            subst k1_
            by_cases kl : f3.length ≤ 1000000
            · rw [if_pos kl] at hst
              simp only [Option.some.injEq, Prod.mk.injEq] at hst
              obtain ⟨rfl, rfl⟩ := hst
              have HKL := Aside0.mk kl
              clear kl
              go_wp2_with (first | (go_at_call 9; refine (impl_sd.write_calls w.heap.size g ⟨st, credit, data_, is_, sent, finish, fin⟩ (.slice Ad data_.length cd) (.slice Ai is_.length ci) A3 c3 f3 _ (show impl_sr.Lp w _ g ⟨st, credit, data_, is_, sent, finish, fin⟩ (.slice Ad data_.length cd) (.slice Ai is_.length ci) [g8, g7, g] u5 acc (.slice none 0 0) [] from by (with_reducible repeat (first | apply impl_sr.Lp.drewN | apply impl_sr.Lp.drew | apply impl_sr.Lp.alloc)); exact HL.out).st (Kd.C_below HG3.out (show impl_sr.Lp w _ g ⟨st, credit, data_, is_, sent, finish, fin⟩ (.slice Ad data_.length cd) (.slice Ai is_.length ci) [g8, g7, g] u5 acc (.slice none 0 0) [] from by (with_reducible repeat (first | apply impl_sr.Lp.drewN | apply impl_sr.Lp.drew | apply impl_sr.Lp.alloc)); exact HL.out).bl) HL3.out HVV.out.1 HVV.out.2.1 HKL.out (show impl_sr.Lp w _ g ⟨st, credit, data_, is_, sent, finish, fin⟩ (.slice Ad data_.length cd) (.slice Ai is_.length ci) [g8, g7, g] u5 acc (.slice none 0 0) [] from by (with_reducible repeat (first | apply impl_sr.Lp.drewN | apply impl_sr.Lp.drew | apply impl_sr.Lp.alloc)); exact HL.out).bl.size).mono ?_; rintro e w9 ⟨vd3, vi3, rfl, hs_, hk_⟩; have m1_ := am (impl_sr.Lp.call (show impl_sr.Lp w _ g ⟨st, credit, data_, is_, sent, finish, fin⟩ (.slice Ad data_.length cd) (.slice Ai is_.length ci) [g8, g7, g] u5 acc (.slice none 0 0) [] from by (with_reducible repeat (first | apply impl_sr.Lp.drewN | apply impl_sr.Lp.drew | apply impl_sr.Lp.alloc)); exact HL.out) hs_ hk_); have m2_ := am (show w9.heap[g8]? = some (.cells #[.int .i64 0, .int .i64 0, .int .i64 0, .slice none 0 0, .bool false, .bool false, .bool false] 33 (0, 0)) from (hk_.kb g8 (blk_lt (show _ = some (Obj.cells #[.int .i64 0, .int .i64 0, .int .i64 0, .slice none 0 0, .bool false, .bool false, .bool false] 33 (0, 0)) from by (with_reducible repeat (first | refine blk_drewN ?_ _ | refine blk_drew ?_ | refine blk_alloc ?_ _)); exact BX8.out)) (NG8.out g (by simp)) (HL.out.nL g8 (by simp)).1 (HL.out.nL g8 (by simp)).2).trans (show _ = some (Obj.cells #[.int .i64 0, .int .i64 0, .int .i64 0, .slice none 0 0, .bool false, .bool false, .bool false] 33 (0, 0)) from by (with_reducible repeat (first | refine blk_drewN ?_ _ | refine blk_drew ?_ | refine blk_alloc ?_ _)); exact BX8.out)); clear HL BX7 BX8 z7_0 q7_0 z7_1 q7_1 z7_2 q7_2 z7_3 q7_3 z7_4 q7_4; have HL := m1_; have BX8 := m2_; clear m1_ m2_; obtain ⟨z8_0, q8_0, z8_1, q8_1, z8_2, q8_2, z8_3, q8_3, z8_4, q8_4, z8_5, q8_5, z8_6, q8_6⟩ := impl_sd.c7 BX8.out; clear hs_ hk_))
              go_meet
              exact ⟨vd3, vi3, .slice none 0 0, ⟨(by (with_reducible repeat (first | exact HL.out | apply impl_sr.Lp.drewN | apply impl_sr.Lp.drew | apply impl_sr.Lp.alloc | refine impl_sr.Lp.set ?_ (x := g8) (by simp) (NG8.out g (by simp)) _ _)); done)⟩, ⟨(bu (blk_put (cs := #[.int .i64 0, .int .i64 0, .int .i64 0, .slice none 0 0, .bool false, .bool false, .bool false]) (bq BX8.out) 0 _ rfl))⟩, (by first | rfl | trivial | simp)⟩
            · rw [if_neg kl] at hst; exact absurd hst (by simp)
          · rw [if_neg k1_] at hst
            have e1_ : (f0 == 1) = false := beq_eq_false_iff_ne.2 k1_
            clear k1_
            by_cases k2_ : f0 = 2
            · rw [if_pos k2_] at hst
              subst k2_
              simp only [Option.some.injEq, Prod.mk.injEq] at hst
              obtain ⟨rfl, rfl⟩ := hst
              go_wp2_with (first | (go_at_call 10; refine (impl_sd.finished_calls w.heap.size g ⟨st, credit, data_, is_, sent, finish, fin⟩ (.slice Ad data_.length cd) (.slice Ai is_.length ci) _ (show impl_sr.Lp w _ g ⟨st, credit, data_, is_, sent, finish, fin⟩ (.slice Ad data_.length cd) (.slice Ai is_.length ci) [g8, g7, g] u5 acc (.slice none 0 0) [] from by (with_reducible repeat (first | apply impl_sr.Lp.drewN | apply impl_sr.Lp.drew | apply impl_sr.Lp.alloc)); exact HL.out).st).mono ?_; rintro e w9 ⟨rfl, hs_, hk_⟩; have m1_ := am (impl_sr.Lp.call (show impl_sr.Lp w _ g ⟨st, credit, data_, is_, sent, finish, fin⟩ (.slice Ad data_.length cd) (.slice Ai is_.length ci) [g8, g7, g] u5 acc (.slice none 0 0) [] from by (with_reducible repeat (first | apply impl_sr.Lp.drewN | apply impl_sr.Lp.drew | apply impl_sr.Lp.alloc)); exact HL.out) hs_ hk_); have m2_ := am (show w9.heap[g8]? = some (.cells #[.int .i64 0, .int .i64 0, .int .i64 0, .slice none 0 0, .bool false, .bool false, .bool false] 33 (0, 0)) from (hk_.kb g8 (blk_lt (show _ = some (Obj.cells #[.int .i64 0, .int .i64 0, .int .i64 0, .slice none 0 0, .bool false, .bool false, .bool false] 33 (0, 0)) from by (with_reducible repeat (first | refine blk_drewN ?_ _ | refine blk_drew ?_ | refine blk_alloc ?_ _)); exact BX8.out)) (NG8.out g (by simp)) (HL.out.nL g8 (by simp)).1 (HL.out.nL g8 (by simp)).2).trans (show _ = some (Obj.cells #[.int .i64 0, .int .i64 0, .int .i64 0, .slice none 0 0, .bool false, .bool false, .bool false] 33 (0, 0)) from by (with_reducible repeat (first | refine blk_drewN ?_ _ | refine blk_drew ?_ | refine blk_alloc ?_ _)); exact BX8.out)); clear HL BX7 BX8 z7_0 q7_0 z7_1 q7_1 z7_2 q7_2 z7_3 q7_3 z7_4 q7_4; have HL := m1_; have BX8 := m2_; clear m1_ m2_; obtain ⟨z8_0, q8_0, z8_1, q8_1, z8_2, q8_2, z8_3, q8_3, z8_4, q8_4, z8_5, q8_5, z8_6, q8_6⟩ := impl_sd.c7 BX8.out; clear hs_ hk_))
              go_meet
              exact ⟨.slice Ad data_.length cd, .slice Ai is_.length ci, .slice none 0 0, ⟨(by (with_reducible repeat (first | exact HL.out | apply impl_sr.Lp.drewN | apply impl_sr.Lp.drew | apply impl_sr.Lp.alloc | refine impl_sr.Lp.set ?_ (x := g8) (by simp) (NG8.out g (by simp)) _ _)); done)⟩, ⟨(bu (blk_put (cs := #[.int .i64 0, .int .i64 0, .int .i64 0, .slice none 0 0, .bool false, .bool false, .bool false]) (bq BX8.out) 0 _ rfl))⟩, (by first | rfl | trivial | simp)⟩
            · rw [if_neg k2_] at hst
              have e2_ : (f0 == 2) = false := beq_eq_false_iff_ne.2 k2_
              clear k2_
              by_cases k3_ : f0 = 3
              · rw [if_pos k3_] at hst
                subst k3_
                by_cases kn : f2 < 0
                · rw [if_pos kn] at hst
                  simp only [Option.some.injEq, Prod.mk.injEq] at hst
                  obtain ⟨rfl, rfl⟩ := hst
                  have qn : decide (f2 < 0) = true := decide_eq_true kn
                  clear kn
                  obtain ⟨z8_0, q8_0, z8_1, q8_1, z8_2, q8_2, z8_3, q8_3, z8_4, q8_4, z8_5, q8_5, z8_6, q8_6⟩ := impl_sd.c7 BX8.out
                  go_wp2
                  go_meet
                  exact ⟨.slice Ad data_.length cd, .slice Ai is_.length ci, .slice none 0 0, ⟨(by (with_reducible repeat (first | exact HL.out | apply impl_sr.Lp.drewN | apply impl_sr.Lp.drew | apply impl_sr.Lp.alloc | refine impl_sr.Lp.set ?_ (x := g8) (by simp) (NG8.out g (by simp)) _ _)); done)⟩, ⟨(bu (blk_put (cs := #[.int .i64 0, .int .i64 0, .int .i64 0, .slice none 0 0, .bool false, .bool false, .bool false]) (bq BX8.out) 0 _ rfl))⟩, (by first | rfl | trivial | simp)⟩
                · rw [if_neg kn] at hst
                  simp only [Option.some.injEq, Prod.mk.injEq] at hst
                  obtain ⟨rfl, rfl⟩ := hst
                  have qn : decide (f2 < 0) = false := decide_eq_false kn
                  clear kn
                  obtain ⟨y0, w0_, y1, w1_, y2, w2_, y3, w3_, y4, w4_, y5, w5_, y6, w6_⟩ := impl_sd.c7 HL.out.st.s
                  dsimp only at y0 y1 y2 y3 y4 y5 y6
                  have e6 : (if credit < f2 then f2 else credit) = max credit f2 := by by_cases h_ : credit < f2 <;> simp [h_] <;> omega
                  go_upto_region 18 with (fail)
                  go_region
                  all_goals go_wp2
                  all_goals go_meet
                  all_goals exact ⟨.slice Ad data_.length cd, .slice Ai is_.length ci, .slice none 0 0, ⟨(by (with_reducible repeat (first | apply impl_sr.Lp.drewN | apply impl_sr.Lp.drew)); first | exact impl_sr.Lp.putg (show impl_sr.Lp w _ g ⟨st, credit, data_, is_, sent, finish, fin⟩ (.slice Ad data_.length cd) (.slice Ai is_.length ci) [g8, g7, g] u5 acc (.slice none 0 0) [] from by (with_reducible repeat (first | apply impl_sr.Lp.drewN | apply impl_sr.Lp.drew | apply impl_sr.Lp.alloc)); exact HL.out) 1 _ rfl rfl rfl | (rw [e6]; exact impl_sr.Lp.putg (show impl_sr.Lp w _ g ⟨st, credit, data_, is_, sent, finish, fin⟩ (.slice Ad data_.length cd) (.slice Ai is_.length ci) [g8, g7, g] u5 acc (.slice none 0 0) [] from by (with_reducible repeat (first | apply impl_sr.Lp.drewN | apply impl_sr.Lp.drew | apply impl_sr.Lp.alloc)); exact HL.out) 1 _ rfl rfl rfl))⟩, ⟨by (with_reducible repeat (first | refine blk_drewN ?_ _ | refine blk_drew ?_ | refine blk_far ?_ (NG8.out g (by simp)) _)); exact BX8.out⟩, (by first | rfl | trivial | simp)⟩
              · rw [if_neg k3_] at hst
                have e3_ : (f0 == 3) = false := beq_eq_false_iff_ne.2 k3_
                clear k3_
                by_cases k4_ : f0 = 4
                · rw [if_pos k4_] at hst
                  subst k4_
                  have hf1 := (impl_sr.inv_pull HV.out f2).2
                  have hpl := fun (W : World) (hW : impl_sd.St W w.heap.size g ⟨st, credit, data_, is_, sent, finish, fin⟩ (.slice Ad data_.length cd) (.slice Ai is_.length ci)) => impl_sd.pull_calls w.heap.size g ⟨st, credit, data_, is_, sent, finish, fin⟩ _ _ f2 W hW (by have := HVV.out; dsimp only; omega) (by have := HVV.out; dsimp only; omega) (by have := HVV.out; dsimp only; omega) (by have := HVV.out; dsimp only; omega)
                  generalize impl_sd.pull ⟨st, credit, data_, is_, sent, finish, fin⟩ f2 = p at hf1 hpl hst
                  obtain ⟨⟨pf0, pf1, pf2, pf3, pf4, pf5, pf6⟩, vp⟩ := p
                  dsimp only at hf1 hpl hst
                  subst hf1
                  simp only [Option.some.injEq, Prod.mk.injEq] at hst
                  obtain ⟨rfl, rfl⟩ := hst
                  go_wp2_with (first | (go_at_call 11; refine (hpl _ (show impl_sr.Lp w _ g ⟨st, credit, data_, is_, sent, finish, fin⟩ (.slice Ad data_.length cd) (.slice Ai is_.length ci) [g8, g7, g] u5 acc (.slice none 0 0) [] from by (with_reducible repeat (first | apply impl_sr.Lp.drewN | apply impl_sr.Lp.drew | apply impl_sr.Lp.alloc)); exact HL.out).st).mono ?_; rintro e w9 ⟨A9, c9, rfl, hr_, hs_, hk_⟩; have m1_ := am (impl_sr.Lp.took (show impl_sr.Lp w _ g ⟨st, credit, data_, is_, sent, finish, fin⟩ (.slice Ad data_.length cd) (.slice Ai is_.length ci) [g8, g7, g] u5 acc (.slice none 0 0) [] from by (with_reducible repeat (first | apply impl_sr.Lp.drewN | apply impl_sr.Lp.drew | apply impl_sr.Lp.alloc)); exact HL.out) hr_ hs_ hk_); have m2_ := am (show w9.heap[g8]? = some (.cells #[.int .i64 0, .int .i64 0, .int .i64 0, .slice none 0 0, .bool false, .bool false, .bool false] 33 (0, 0)) from (hk_.kb g8 (blk_lt (show _ = some (Obj.cells #[.int .i64 0, .int .i64 0, .int .i64 0, .slice none 0 0, .bool false, .bool false, .bool false] 33 (0, 0)) from by (with_reducible repeat (first | refine blk_drewN ?_ _ | refine blk_drew ?_ | refine blk_alloc ?_ _)); exact BX8.out)) (NG8.out g (by simp)) (HL.out.nL g8 (by simp)).1 (HL.out.nL g8 (by simp)).2).trans (show _ = some (Obj.cells #[.int .i64 0, .int .i64 0, .int .i64 0, .slice none 0 0, .bool false, .bool false, .bool false] 33 (0, 0)) from by (with_reducible repeat (first | refine blk_drewN ?_ _ | refine blk_drew ?_ | refine blk_alloc ?_ _)); exact BX8.out)); clear HL BX7 BX8 z7_0 q7_0 z7_1 q7_1 z7_2 q7_2 z7_3 q7_3 z7_4 q7_4; have HL := m1_; have BX8 := m2_; clear m1_ m2_; obtain ⟨z8_0, q8_0, z8_1, q8_1, z8_2, q8_2, z8_3, q8_3, z8_4, q8_4, z8_5, q8_5, z8_6, q8_6⟩ := impl_sd.c7 BX8.out; clear hr_ hs_ hk_))
                  go_meet
                  exact ⟨.slice Ad data_.length cd, .slice Ai is_.length ci, .slice A9 pf3.length c9, ⟨(by (with_reducible repeat (first | exact HL.out | apply impl_sr.Lp.drewN | apply impl_sr.Lp.drew | apply impl_sr.Lp.alloc | refine impl_sr.Lp.set ?_ (x := g8) (by simp) (NG8.out g (by simp)) _ _)); done)⟩, ⟨(bu (blk_put (cs := #[.int .i64 pf0, .int .i64 0, .int .i64 pf2, .slice A9 pf3.length c9, .bool pf4, .bool pf5, .bool false]) (bu (blk_put (cs := #[.int .i64 pf0, .int .i64 0, .int .i64 pf2, .slice A9 pf3.length c9, .bool pf4, .bool false, .bool false]) (bu (blk_put (cs := #[.int .i64 pf0, .int .i64 0, .int .i64 pf2, .slice A9 pf3.length c9, .bool false, .bool false, .bool false]) (bu (blk_put (cs := #[.int .i64 pf0, .int .i64 0, .int .i64 pf2, .slice none 0 0, .bool false, .bool false, .bool false]) (bu (blk_put (cs := #[.int .i64 pf0, .int .i64 0, .int .i64 0, .slice none 0 0, .bool false, .bool false, .bool false]) (bu (blk_put (cs := #[.int .i64 pf0, .int .i64 0, .int .i64 0, .slice none 0 0, .bool false, .bool false, .bool false]) (bu (blk_put (cs := #[.int .i64 0, .int .i64 0, .int .i64 0, .slice none 0 0, .bool false, .bool false, .bool false]) (bq BX8.out) 0 _ rfl)) 1 _ rfl)) 2 _ rfl)) 3 _ rfl)) 4 _ rfl)) 5 _ rfl)) 6 _ rfl))⟩, (by first | rfl | trivial | simp)⟩
                · rw [if_neg k4_] at hst
                  have e4_ : (f0 == 4) = false := beq_eq_false_iff_ne.2 k4_
                  clear k4_
                  by_cases k5_ : f0 = 5 ∨ f0 = 6
                  · rw [if_pos k5_] at hst
                    have hhe := fun (W : World) (hW : impl_sd.St W w.heap.size g ⟨st, credit, data_, is_, sent, finish, fin⟩ (.slice Ad data_.length cd) (.slice Ai is_.length ci)) => impl_sd.heard_calls w.heap.size g ⟨st, credit, data_, is_, sent, finish, fin⟩ _ _ f1 f2 f4 (f0 == 5) W hW (by have := HVV.out; dsimp only; omega) (by have := HVV.out; dsimp only; omega) (by have := HVV.out; dsimp only; omega)
                    generalize impl_sd.heard ⟨st, credit, data_, is_, sent, finish, fin⟩ f1 f2 f4 (f0 == 5) = p at hhe hst
                    obtain ⟨pc, vp⟩ := p
                    dsimp only at hhe hst
                    simp only [Option.some.injEq, Prod.mk.injEq] at hst
                    obtain ⟨rfl, rfl⟩ := hst
                    by_cases k6_ : f0 = 5
                    · have e5_ : (f0 == 5) = true := beq_iff_eq.2 k6_
                      rw [e5_] at hhe
                      clear k5_ k6_
                      go_wp2_with (first | (go_at_call 12; refine (hhe _ (show impl_sr.Lp w _ g ⟨st, credit, data_, is_, sent, finish, fin⟩ (.slice Ad data_.length cd) (.slice Ai is_.length ci) [g8, g7, g] u5 acc (.slice none 0 0) [] from by (with_reducible repeat (first | apply impl_sr.Lp.drewN | apply impl_sr.Lp.drew | apply impl_sr.Lp.alloc)); exact HL.out).st).mono ?_; rintro e w9 ⟨rfl, hs_, hk_⟩; have m1_ := am (impl_sr.Lp.call (show impl_sr.Lp w _ g ⟨st, credit, data_, is_, sent, finish, fin⟩ (.slice Ad data_.length cd) (.slice Ai is_.length ci) [g8, g7, g] u5 acc (.slice none 0 0) [] from by (with_reducible repeat (first | apply impl_sr.Lp.drewN | apply impl_sr.Lp.drew | apply impl_sr.Lp.alloc)); exact HL.out) hs_ hk_); have m2_ := am (show w9.heap[g8]? = some (.cells #[.int .i64 0, .int .i64 0, .int .i64 0, .slice none 0 0, .bool false, .bool false, .bool false] 33 (0, 0)) from (hk_.kb g8 (blk_lt (show _ = some (Obj.cells #[.int .i64 0, .int .i64 0, .int .i64 0, .slice none 0 0, .bool false, .bool false, .bool false] 33 (0, 0)) from by (with_reducible repeat (first | refine blk_drewN ?_ _ | refine blk_drew ?_ | refine blk_alloc ?_ _)); exact BX8.out)) (NG8.out g (by simp)) (HL.out.nL g8 (by simp)).1 (HL.out.nL g8 (by simp)).2).trans (show _ = some (Obj.cells #[.int .i64 0, .int .i64 0, .int .i64 0, .slice none 0 0, .bool false, .bool false, .bool false] 33 (0, 0)) from by (with_reducible repeat (first | refine blk_drewN ?_ _ | refine blk_drew ?_ | refine blk_alloc ?_ _)); exact BX8.out)); clear HL BX7 BX8 z7_0 q7_0 z7_1 q7_1 z7_2 q7_2 z7_3 q7_3 z7_4 q7_4; have HL := m1_; have BX8 := m2_; clear m1_ m2_; obtain ⟨z8_0, q8_0, z8_1, q8_1, z8_2, q8_2, z8_3, q8_3, z8_4, q8_4, z8_5, q8_5, z8_6, q8_6⟩ := impl_sd.c7 BX8.out; clear hs_ hk_))
                      go_meet
                      exact ⟨.slice Ad data_.length cd, .slice Ai is_.length ci, .slice none 0 0, ⟨(by (with_reducible repeat (first | exact HL.out | apply impl_sr.Lp.drewN | apply impl_sr.Lp.drew | apply impl_sr.Lp.alloc | refine impl_sr.Lp.set ?_ (x := g8) (by simp) (NG8.out g (by simp)) _ _)); done)⟩, ⟨(bu (blk_put (cs := #[.int .i64 0, .int .i64 0, .int .i64 0, .slice none 0 0, .bool false, .bool false, .bool false]) (bq BX8.out) 0 _ rfl))⟩, (by first | rfl | trivial | simp)⟩
                    · have e5_ : (f0 == 5) = false := beq_eq_false_iff_ne.2 k6_
                      have e6_ : (f0 == 6) = true := beq_iff_eq.2 (by omega)
                      rw [e5_] at hhe
                      clear k5_ k6_
                      go_wp2_with (first | (go_at_call 12; refine (hhe _ (show impl_sr.Lp w _ g ⟨st, credit, data_, is_, sent, finish, fin⟩ (.slice Ad data_.length cd) (.slice Ai is_.length ci) [g8, g7, g] u5 acc (.slice none 0 0) [] from by (with_reducible repeat (first | apply impl_sr.Lp.drewN | apply impl_sr.Lp.drew | apply impl_sr.Lp.alloc)); exact HL.out).st).mono ?_; rintro e w9 ⟨rfl, hs_, hk_⟩; have m1_ := am (impl_sr.Lp.call (show impl_sr.Lp w _ g ⟨st, credit, data_, is_, sent, finish, fin⟩ (.slice Ad data_.length cd) (.slice Ai is_.length ci) [g8, g7, g] u5 acc (.slice none 0 0) [] from by (with_reducible repeat (first | apply impl_sr.Lp.drewN | apply impl_sr.Lp.drew | apply impl_sr.Lp.alloc)); exact HL.out) hs_ hk_); have m2_ := am (show w9.heap[g8]? = some (.cells #[.int .i64 0, .int .i64 0, .int .i64 0, .slice none 0 0, .bool false, .bool false, .bool false] 33 (0, 0)) from (hk_.kb g8 (blk_lt (show _ = some (Obj.cells #[.int .i64 0, .int .i64 0, .int .i64 0, .slice none 0 0, .bool false, .bool false, .bool false] 33 (0, 0)) from by (with_reducible repeat (first | refine blk_drewN ?_ _ | refine blk_drew ?_ | refine blk_alloc ?_ _)); exact BX8.out)) (NG8.out g (by simp)) (HL.out.nL g8 (by simp)).1 (HL.out.nL g8 (by simp)).2).trans (show _ = some (Obj.cells #[.int .i64 0, .int .i64 0, .int .i64 0, .slice none 0 0, .bool false, .bool false, .bool false] 33 (0, 0)) from by (with_reducible repeat (first | refine blk_drewN ?_ _ | refine blk_drew ?_ | refine blk_alloc ?_ _)); exact BX8.out)); clear HL BX7 BX8 z7_0 q7_0 z7_1 q7_1 z7_2 q7_2 z7_3 q7_3 z7_4 q7_4; have HL := m1_; have BX8 := m2_; clear m1_ m2_; obtain ⟨z8_0, q8_0, z8_1, q8_1, z8_2, q8_2, z8_3, q8_3, z8_4, q8_4, z8_5, q8_5, z8_6, q8_6⟩ := impl_sd.c7 BX8.out; clear hs_ hk_))
                      go_meet
                      exact ⟨.slice Ad data_.length cd, .slice Ai is_.length ci, .slice none 0 0, ⟨(by (with_reducible repeat (first | exact HL.out | apply impl_sr.Lp.drewN | apply impl_sr.Lp.drew | apply impl_sr.Lp.alloc | refine impl_sr.Lp.set ?_ (x := g8) (by simp) (NG8.out g (by simp)) _ _)); done)⟩, ⟨(bu (blk_put (cs := #[.int .i64 0, .int .i64 0, .int .i64 0, .slice none 0 0, .bool false, .bool false, .bool false]) (bq BX8.out) 0 _ rfl))⟩, (by first | rfl | trivial | simp)⟩
                  · rw [if_neg k5_] at hst; exact absurd hst (by simp)
        case rest =>
          clear HL BX7 BX8 HST
          obtain ⟨vd2, vi2, va2, HL, BX8, eo1⟩ := hcut
          refine impl_sd.next_ (by assumption) ?_
          obtain ⟨A4, c4, rfl⟩ := Kd.R_slice HL.out.dat
          obtain ⟨z8_0, q8_0, z8_1, q8_1, z8_2, q8_2, z8_3, q8_3, z8_4, q8_4, z8_5, q8_5, z8_6, q8_6⟩ := impl_sd.c7 BX8.out
          obtain ⟨y0, f0_, y1, f1_, y2, f2_, y3, f3_, y4, f4_, y5, f5_, y6, f6_⟩ := impl_sd.c7 HL.out.st.s
          rw [← eo1] at y0
          clear eo1
          have nx1_ : g8 ≠ g := NG8.out g (by simp)
          have nx2_ : g ≠ g8 := nx1_.symm
          go_upto_region 34 with (fail)
          refine impl_sd.cwp_seal (fun W_ => impl_sr.Lp w W_ g v2 (vd2) (vi2) [g8, g7, g] u5 acc (.slice A4 ob.f3.length c4) ob.f3 ∧ W_.heap[g8]? = some (.cells #[.int .i64 ob.f0, .int .i64 ob.f1, .int .i64 ob.f2, .slice A4 ob.f3.length c4, .bool ob.f4, .bool ob.f5, .bool ob.f6] 33 (0, 0))) ⟨(by (with_reducible repeat (first | exact HL.out | apply impl_sr.Lp.drewN | apply impl_sr.Lp.drew | apply impl_sr.Lp.alloc | refine impl_sr.Lp.set ?_ (x := g8) (by simp) (NG8.out g (by simp)) _ _)); done), (bu (blk_put (cs := #[.int .i64 ob.f0, .int .i64 0, .int .i64 ob.f2, .slice A4 ob.f3.length c4, .bool ob.f4, .bool ob.f5, .bool ob.f6]) (bq BX8.out) 1 _ rfl))⟩ ?_
          clear HL BX8 z8_0 q8_0 z8_1 q8_1 z8_2 q8_2 z8_3 q8_3 z8_4 q8_4 z8_5 q8_5 z8_6 q8_6 y0 f0_ y1 f1_ y2 f2_ y3 f3_ y4 f4_ y5 f5_ y6 f6_
          rintro w10 ⟨h1_, h2_⟩
          have HL := Aside0.mk h1_
          have BX8 := Aside0.mk h2_
          clear h1_ h2_
          obtain ⟨z8_0, q8_0, z8_1, q8_1, z8_2, q8_2, z8_3, q8_3, z8_4, q8_4, z8_5, q8_5, z8_6, q8_6⟩ := impl_sd.c7 BX8.out
          obtain ⟨N_, hs1_, hs2_⟩ := HL.out.sep
          have HS1 := Aside0.mk hs1_
          have HS2 := Aside0.mk hs2_
          clear hs1_ hs2_
          go_wp2_with (first | ((with_reducible refine gate_builtin (b := .append) (xs := #[.tmp 106, .tmp 108]) rfl ?_); (try (refine gate_guard (by rfl) ?_; dsimp only)); at_builtin; refine Kd.S_append k33 (w0 := w) w.heap.size rfl (.tmp 106) (.tmp 108) 28 33 (.agg #[.int .i64 0, .int .i64 0, .int .i64 0, .slice none 0 0, .bool false, .bool false, .bool false]) 56 rfl Try.underlying28 impl_sr.info rfl (by decide) (by omega) _ acc ob [.int .i64 ob.f0, .int .i64 ob.f1, .int .i64 ob.f2, .slice A4 ob.f3.length c4, .bool ob.f4, .bool ob.f5, .bool ob.f6] (fun k => (∀ x ∈ [g8, g7, g], k ≠ x) ∧ some k ≠ vd2.ownBlock ∧ some k ≠ vi2.ownBlock) (fun k => ((∀ x ∈ [g8, g7, g], k ≠ x) ∧ some k ≠ vd2.ownBlock ∧ some k ≠ vi2.ownBlock) ∧ some k ≠ u5.ownBlock ∧ N_ ≤ k) rfl rfl ?aP (fun _ hk => ⟨hk.1, hk.2.1⟩) ?aF ?aO ?aB ?aS ?aL ?_; (case aP => exact k33_mkM _ _ _ ob (rq HS2.out)); (case aF => exact (show impl_sr.Lp w _ g v2 (vd2) (vi2) [g8, g7, g] u5 acc (.slice A4 ob.f3.length c4) ob.f3 from by (with_reducible repeat (first | apply impl_sr.Lp.drewN | apply impl_sr.Lp.drew | apply impl_sr.Lp.alloc)); exact HL.out).fresh); (case aO => exact Kd.S_mono (ok := fun k => ((∀ x ∈ [g8, g7, g], k ≠ x) ∧ some k ≠ vd2.ownBlock ∧ some k ≠ vi2.ownBlock) ∧ k < N_) (by (with_reducible repeat (first | apply Kd.S_alloc | apply Kd.S_drewN | apply Kd.S_drew)); exact HS1.out) (fun k hk => ⟨hk.1, fun h_ => by have := hk.2; have := h_.2.2; omega⟩)); (case aB => exact (show impl_sr.Lp w _ g v2 (vd2) (vi2) [g8, g7, g] u5 acc (.slice A4 ob.f3.length c4) ob.f3 from by (with_reducible repeat (first | apply impl_sr.Lp.drewN | apply impl_sr.Lp.drew | apply impl_sr.Lp.alloc)); exact HL.out).bl); (case aS => exact (show impl_sr.Lp w _ g v2 (vd2) (vi2) [g8, g7, g] u5 acc (.slice A4 ob.f3.length c4) ob.f3 from by (with_reducible repeat (first | apply impl_sr.Lp.drewN | apply impl_sr.Lp.drew | apply impl_sr.Lp.alloc)); exact HL.out).bl.size); (case aL => have := HA.out; have := HI.out; have := HLN.out; omega); intro v1 w25 ho hb hg hat; have n1_ := am (impl_sr.Lp.app (show impl_sr.Lp w _ g v2 (vd2) (vi2) [g8, g7, g] u5 acc (.slice A4 ob.f3.length c4) ob.f3 from by (with_reducible repeat (first | apply impl_sr.Lp.drewN | apply impl_sr.Lp.drew | apply impl_sr.Lp.alloc)); exact HL.out) ho hb hg); clear HL; have HL := n1_; clear n1_ ho hb hg hat))
          go_roundg k1
          case measure => have := HI.out; omega
          case rel =>
            exact ⟨x + 1, v2, vd2, vi2, acc ++ [ob], .slice none 0 0, [], (by first | (rw [IntWalk.wrap64_in ((x : Int) + 1) (by have := HLN.out; have := HI.out; omega), show ((x : Int) + 1) = ((x + 1 : Nat) : Int) by omega]; done) | (rw [show ((x : Int) + 1) = ((x + 1 : Nat) : Int) by omega]; done)), ⟨by have := HI.out; omega⟩, HV2, ⟨by rw [List.length_append, HA.out]; rfl⟩, HRUN, ⟨(show impl_sr.Lp w _ g v2 vd2 vi2 [g8, g7, g] _ (acc ++ [ob]) _ _ from by (with_reducible repeat (first | apply impl_sr.Lp.drewN | apply impl_sr.Lp.drew | apply impl_sr.Lp.alloc)); exact HL.out).fewer (by simp) (by simp)⟩⟩
    · have q7 : decide ((x : Int) < (ops.length : Int)) = false := decide_eq_false (by omega)
      have q7n : decide (x < ops.length) = false := decide_eq_false c7
      have eq_ := impl_sr.run_nil c7 H.out
      subst eq_
      clear H c7
      go_wp2
      go_ret2
      exact ⟨_, rfl, Kd.S_mono (show Kd.S k33 33 _ w.heap.size (fun k => (∀ x ∈ [g], k ≠ x) ∧ some k ≠ vd.ownBlock ∧ some k ≠ vi.ownBlock) u5 acc from by (with_reducible repeat (first | apply Kd.S_drewN | apply Kd.S_drew)); exact HL.out.row) (fun _ _ => trivial), (by (with_reducible repeat (first | exact HL.out.bl | apply pw_below_drewN | apply below_drew1)); first | done | exact HL.out.bl)⟩



def impl_SendRun.f (_k : Nat) (l0 : List (S25)) : Option (List (S33) × Int) :=
  if l0.length ≤ 400 then (impl_sd.run l0 ⟨0, 0, [], [], 0, false, 0⟩ []).bind fun out => some (out, 0) else none
theorem impl_SendRun.mono : ∀ l0 k, LeO (impl_SendRun.f k l0) (impl_SendRun.f (k + 1) l0) := fun _ _ => LeO.refl _
theorem impl_SendRun.calls (k : Nat) (A0 : Option Addr) (c0 : Nat) (l0 : List (S25)) (r1 : List (S33)) (r2 : Int) (w : World) (hr0 : Kd.C k25 w A0 l0.length l0) (hc0 : l0.length ≤ c0) (h : impl_SendRun.f k l0 = some (r1, r2)) :
    Calls Try.prog 6 #[.slice A0 l0.length c0] w fun e w' => ∃ v0_ : Value, e = .returned (.tuple #[v0_, .int .i64 r2]) ∧ Kd.S k33 33 w' w.heap.size (fun _ => True) v0_ r1 ∧ Below w.heap.size w w' := by
  unfold impl_SendRun.f at h
  by_cases c : l0.length ≤ 400
  · rw [if_pos c] at h
    obtain ⟨out, h1, h2⟩ := Option.bind_eq_some_iff.1 h
    simp only [Option.some.injEq, Prod.mk.injEq] at h2
    obtain ⟨rfl, rfl⟩ := h2
    exact impl_sr.calls A0 c0 l0 _ w hr0 hc0 c h1
  · rw [if_neg c] at h; exact absurd h (by simp)

end Go.Proofs.Ytkmopmoglgcamaa.PFnPipe
