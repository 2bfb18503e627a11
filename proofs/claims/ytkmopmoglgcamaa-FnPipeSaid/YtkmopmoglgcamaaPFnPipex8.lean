-- Written by a program of this repo (xprint.py) out of the translation; Lean checks it. SHRUNK
import Derived.Test.YtkmopmoglgcamaaPFnPipex7
import Derived.Test.YtkmopmoglgcamaaPFnPipex0
import Derived.Test.YtkmopmoglgcamaaPFnPipex6
namespace Go.Proofs.Ytkmopmoglgcamaa.PFnPipe
open Go.RowKit Go.Proofs.YtkmopmoglgcamaaW.PrintWords Go.Proofs.YtkmopmoglgcamaaW.PrintLast Go.Proofs.YtkmopmoglgcamaaW.PrintMore
attribute [local go_sem] max2_int min2_int max_two min_two max_three min_three max_four min_four   -- for this text's walks alone
set_option linter.unusedVariables false
set_option linter.unusedSimpArgs false
/-! An operation on the receiving part, and what it told. -/
theorem impl_rr.info : (Try.prog.info? 39).map (fun i => (i.zero, i.size, i.bytes)) = some (some (.agg #[.int .i64 0, .int .i64 0, .int .i64 0, .slice none 0 0, .bool false]), 5, 56) := by kernel_rfl
noncomputable section
def impl_rr.step (k : Nat) (v : impl_rc.V) (o : S34) : Option (S39 × impl_rc.V) :=
  if o.f0 = 1 then (if o.f3.length ≤ 1000000 then some (⟨(impl_rc.data v o.f1 o.f3 o.f4).1, (impl_rc.data v o.f1 o.f3 o.f4).2.st, (impl_rc.data v o.f1 o.f3 o.f4).2.told, [], false⟩, (impl_rc.data v o.f1 o.f3 o.f4).2) else none)
  else if o.f0 = 2 then some (⟨(impl_rc.reset v o.f2).1, (impl_rc.reset v o.f2).2.st, (impl_rc.reset v o.f2).2.told, [], false⟩, (impl_rc.reset v o.f2).2)
  else if o.f0 = 3 then (impl_rc.take k v o.f2).bind fun p => some (⟨p.1.2.2, p.2.st, p.2.told, p.1.1, p.1.2.1⟩, p.2)
  else some (⟨1, v.st, v.told, [], false⟩, v)
def impl_rr.run (k : Nat) : List (S34) → impl_rc.V → List (S39) → Option (List (S39))
  | [], _, acc => some acc
  | o :: os, v, acc => (impl_rr.step k v o).bind fun p => impl_rr.run k os p.2 (acc ++ [p.1])
end
theorem impl_rr.run_cons {k : Nat} {os : List (S34)} {v : impl_rc.V} {acc out : List (S39)} {i : Nat} (hi : i < os.length) (h : impl_rr.run k (os.drop i) v acc = some out) : ∃ ob v2, impl_rr.step k v (rd_T34 os (i : Int)) = some (ob, v2) ∧ impl_rr.run k (os.drop (i + 1)) v2 (acc ++ [ob]) = some out := by
  rw [List.drop_eq_getElem_cons hi] at h
  have e : rd_T34 os (i : Int) = os[i] := by
    show os.getD (i : Int).toNat z34 = os[i]
    rw [Int.toNat_natCast, List.getD_eq_getElem?_getD, List.getElem?_eq_getElem hi]
    rfl
  obtain ⟨⟨ob, v2⟩, h1, h2⟩ := Option.bind_eq_some_iff.1 h
  exact ⟨ob, v2, by rw [e]; exact h1, h2⟩
theorem impl_rr.run_nil {k : Nat} {os : List (S34)} {v : impl_rc.V} {acc out : List (S39)} {i : Nat} (hi : ¬ i < os.length) (h : impl_rr.run k (os.drop i) v acc = some out) : acc = out := by
  rw [List.drop_eq_nil_of_le (by omega)] at h
  exact Option.some.inj h
theorem impl_rr.run_len {k : Nat} : ∀ {os : List (S34)} {v : impl_rc.V} {acc out : List (S39)}, impl_rr.run k os v acc = some out → out.length = acc.length + os.length
  | [], v, acc, out, h => by rw [← Option.some.inj h]; rfl
  | o :: os, v, acc, out, h => by
    obtain ⟨p, h1, h2⟩ := Option.bind_eq_some_iff.1 h
    rw [impl_rr.run_len h2, List.length_append]
    simp
    omega
theorem impl_rc.St.far {w : World} {g b n : Nat} {v : impl_rc.V} (h : impl_rc.St w g b n v) {x : Nat} (h1 : x ≠ g) (h2 : x ≠ b) (j : Nat) (u : Value) : impl_rc.St (w.setCell ⟨x, j, none⟩ u) g b n v :=
  ⟨(Below.heap_setCell w ⟨x, j, none⟩ u g (Ne.symm h1)).trans h.s, h.m.setCell (Ne.symm h2) u⟩
/-- The loop's state: the receiving part; the row of what it told; the bytes that the last read took. -/
structure impl_rr.Lp (w0 W : World) (g b n : Nat) (v : impl_rc.V) (L : List Nat) (vo : Value) (acc : List (S39)) (vd : Value) (r : List Int) : Prop where
  st : impl_rc.St W g b n v
  sep : ∃ N, Kd.S k39 39 W w0.heap.size (fun k => (∀ x ∈ L, k ≠ x) ∧ k < N) vo acc ∧ (Kd.int .u8).R 5 W w0.heap.size (fun k => (∀ x ∈ L, k ≠ x) ∧ some k ≠ vo.ownBlock ∧ N ≤ k) vd r
  bl : Below w0.heap.size w0 W
  gL : g ∈ L
  bL : b ∈ L
  hL : ∀ x ∈ L, w0.heap.size ≤ x ∧ x < W.heap.size
section
variable {w0 W W1 : World} {g b n : Nat} {v : impl_rc.V} {L : List Nat} {vo vd : Value} {acc : List (S39)} {r : List Int}
theorem impl_rr.Lp.row (h : impl_rr.Lp w0 W g b n v L vo acc vd r) : Kd.S k39 39 W w0.heap.size (fun k => ∀ x ∈ L, k ≠ x) vo acc := by
  obtain ⟨N, h1, _⟩ := h.sep
  exact Kd.S_mono h1 (fun _ hk => hk.1)
theorem impl_rr.Lp.dat (h : impl_rr.Lp w0 W g b n v L vo acc vd r) : (Kd.int .u8).R 5 W w0.heap.size (fun k => (∀ x ∈ L, k ≠ x) ∧ some k ≠ vo.ownBlock) vd r := by
  obtain ⟨N, _, h2⟩ := h.sep
  exact Kd.R_mono h2 (fun _ hk => ⟨hk.1, hk.2.1⟩)
theorem impl_rr.Lp.below (h : impl_rr.Lp w0 W g b n v L vo acc vd r) (hb : Below W.heap.size W W1) : impl_rr.Lp w0 W1 g b n v L vo acc vd r :=
  ⟨h.st.below hb, h.sep.imp (fun N hh => ⟨Kd.S_below hh.1 hb, Kd.R_below hh.2 hb⟩), below_step h.bl hb, h.gL, h.bL, fun x hx => ⟨(h.hL x hx).1, Nat.lt_of_lt_of_le (h.hL x hx).2 hb.size⟩⟩
theorem impl_rr.Lp.drew (h : impl_rr.Lp w0 W g b n v L vo acc vd r) : impl_rr.Lp w0 W.drew g b n v L vo acc vd r := h.below (below_drew1 (Below.refl _ _))
theorem impl_rr.Lp.drewN (h : impl_rr.Lp w0 W g b n v L vo acc vd r) (m : Nat) : impl_rr.Lp w0 (W.drewN m) g b n v L vo acc vd r := h.below (pw_below_drewN (Below.refl _ _) m)
theorem impl_rr.Lp.alloc (h : impl_rr.Lp w0 W g b n v L vo acc vd r) (o : Obj) : impl_rr.Lp w0 (W.alloc o) g b n v L vo acc vd r := h.below (below_alloc (Below.refl _ _) o)
theorem impl_rr.Lp.box (h : impl_rr.Lp w0 W g b n v L vo acc vd r) (hb : Below W.heap.size W W1) {x : Nat} (hx : x = W.heap.size) {o : Obj} (ho : W1.heap[x]? = some o) : impl_rr.Lp w0 W1 g b n v (x :: L) vo acc vd r := by
  have h2 := h.below hb
  have hlt := blk_lt ho
  subst hx
  obtain ⟨N, s1, s2⟩ := h.sep
  refine ⟨h2.st, ⟨N, ?_, ?_⟩, h2.bl, List.mem_cons_of_mem _ h.gL, List.mem_cons_of_mem _ h.bL, fun x hx => ?_⟩
  · refine Kd.S_below (Kd.S_mono (Kd.S_bound s1) (fun k hk => ⟨fun x hx => ?_, hk.1.2⟩)) hb
    rcases List.mem_cons.1 hx with rfl | hx
    · exact Nat.ne_of_lt hk.2.2.1
    · exact hk.1.1 x hx
  · refine Kd.R_below (Kd.R_mono (Kd.R_bound s2) (fun k hk => ⟨fun x hx => ?_, hk.1.2⟩)) hb
    rcases List.mem_cons.1 hx with rfl | hx
    · exact Nat.ne_of_lt hk.2.2.1
    · exact hk.1.1 x hx
  · rcases List.mem_cons.1 hx with rfl | hx
    · exact ⟨h.bl.size, hlt⟩
    · exact h2.hL x hx
theorem impl_rr.Lp.ne (h : impl_rr.Lp w0 W g b n v L vo acc vd r) {x : Nat} (hx : x = W.heap.size) : ∀ y ∈ L, x ≠ y := fun y hy => by have := (h.hL y hy).2; omega
theorem impl_rr.Lp.fresh (h : impl_rr.Lp w0 W g b n v L vo acc vd r) : ∀ k, W.heap.size ≤ k → ∀ x ∈ L, k ≠ x := fun k hk y hy => by have := (h.hL y hy).2; omega
theorem impl_rr.Lp.set (h : impl_rr.Lp w0 W g b n v L vo acc vd r) {x : Nat} (hx : x ∈ L) (h1 : x ≠ g) (h2 : x ≠ b) (j : Nat) (u : Value) : impl_rr.Lp w0 (W.setCell ⟨x, j, none⟩ u) g b n v L vo acc vd r :=
  ⟨h.st.far h1 h2 j u, h.sep.imp (fun N hh => ⟨Kd.S_far hh.1 (fun k hk => hk.1 x hx) u, Kd.R_far hh.2 (fun k hk => hk.1 x hx) u⟩), h.bl.setCell (h.hL x hx).1 u, h.gL, h.bL, fun y hy => ⟨(h.hL y hy).1, by have := (h.hL y hy).2; simpa [World.setCell] using this⟩⟩
theorem impl_rr.Lp.call {n2 : Nat} {v2 : impl_rc.V} (h : impl_rr.Lp w0 W g b n v L vo acc vd r) (hs : impl_rc.St W1 g b n2 v2) (hk : impl_rc.Kp W W1 g b) : impl_rr.Lp w0 W1 g b n2 v2 L vo acc vd r :=
  ⟨hs, h.sep.imp (fun N hh => ⟨Kd.S_step hh.1 (fun k ho hl => hk.kb k hl (ho.1 g h.gL) (ho.1 b h.bL)), Kd.R_step hh.2 (fun k ho hl => hk.kb k hl (ho.1 g h.gL) (ho.1 b h.bL))⟩), h.bl.trans (hk.bl _ (h.hL g h.gL).1 (h.hL b h.bL).1), h.gL, h.bL, fun x hx => ⟨(h.hL x hx).1, Nat.lt_of_lt_of_le (h.hL x hx).2 hk.sz⟩⟩
theorem impl_rr.Lp.took {n2 : Nat} {v2 : impl_rc.V} {vd2 : Value} {r2 : List Int} (h : impl_rr.Lp w0 W g b n v L vo acc vd r) (hr : (Kd.int .u8).R 5 W1 W.heap.size (fun _ => True) vd2 r2) (hs : impl_rc.St W1 g b n2 v2) (hk : impl_rc.Kp W W1 g b) : impl_rr.Lp w0 W1 g b n2 v2 L vo acc vd2 r2 := by
  have h2 := h.call hs hk
  refine ⟨h2.st, ⟨W.heap.size, ?_, ?_⟩, h2.bl, h2.gL, h2.bL, h2.hL⟩
  · exact Kd.S_step (Kd.S_mono (Kd.S_bound h.row) (fun k hk2 => ⟨hk2.1, hk2.2.2.1⟩)) (fun k ho hl => hk.kb k hl (ho.1 g h.gL) (ho.1 b h.bL))
  · exact Kd.R_lower (Kd.R_mono (Kd.R_bound hr) (fun k hk2 => ⟨fun x hx => by have := (h.hL x hx).2; have := hk2.2.1; omega, fun e => by have := Kd.S_lt h.row k e.symm; have := hk2.2.1; omega, hk2.2.1⟩)) h.bl.size
theorem impl_rr.Lp.nodat (h : impl_rr.Lp w0 W g b n v L vo acc vd r) : impl_rr.Lp w0 W g b n v L vo acc (.slice none 0 0) [] := ⟨h.st, h.sep.imp (fun N hh => ⟨hh.1, Kd.R_nil _ _ _ _ _⟩), h.bl, h.gL, h.bL, h.hL⟩
theorem impl_rr.Lp.app {v1 : Value} {acc2 : List (S39)} (h : impl_rr.Lp w0 W g b n v L vo acc vd r) (ho : Kd.S k39 39 W1 w0.heap.size (fun k => ∀ x ∈ L, k ≠ x) v1 acc2) (hb : Below w0.heap.size w0 W1) (hg : W.grownBy W1 vo.ownBlock) : impl_rr.Lp w0 W1 g b n v L v1 acc2 (.slice none 0 0) [] := by
  have n1 : some g ≠ vo.ownBlock := fun e => (Kd.S_R h.row).1 g e.symm g h.gL rfl
  have n2 : some b ≠ vo.ownBlock := fun e => (Kd.S_R h.row).1 b e.symm b h.bL rfl
  exact ⟨⟨(hg.block g (blk_lt h.st.s) n1).trans h.st.s, h.st.m.kept hg n2⟩, ⟨W1.heap.size, Kd.S_mono (Kd.S_bound ho) (fun k hk => ⟨hk.1, hk.2.2.1⟩), Kd.R_nil _ _ _ _ _⟩, hb, h.gL, h.bL, fun x hx => ⟨(h.hL x hx).1, Nat.lt_of_lt_of_le (h.hL x hx).2 hg.size⟩⟩
theorem impl_rr.Lp.first {W W1 : World} (hs : impl_rc.St W g b n v) (hg : w0.heap.size ≤ g) (hb : w0.heap.size ≤ b) (hB : Below w0.heap.size w0 W) (ho : Kd.S k39 39 W1 W.heap.size (fun _ => True) vo acc) (hb1 : Below W.heap.size W W1) : impl_rr.Lp w0 W1 g b n v [g, b] vo acc (.slice none 0 0) [] := by
  have h1 := blk_lt hs.s
  have h2 := hs.m.lt
  have hz := hb1.size
  refine ⟨hs.below hb1, ⟨W1.heap.size, Kd.S_lower (Kd.S_mono (Kd.S_bound ho) (fun k hk => ⟨fun x hx => ?_, hk.2.2.1⟩)) hB.size, Kd.R_nil _ _ _ _ _⟩, below_step hB hb1, by simp, by simp, fun x hx => ?_⟩
  · have := hk.2.1
    rcases List.mem_cons.1 hx with rfl | hx
    · omega
    · rw [List.mem_singleton.1 hx]; omega
  · rcases List.mem_cons.1 hx with rfl | hx
    · exact ⟨hg, by omega⟩
    · rw [List.mem_singleton.1 hx]; exact ⟨hb, by omega⟩
theorem impl_rr.Lp.fewer (h : impl_rr.Lp w0 W g b n v L vo acc vd r) {L2 : List Nat} (hL : ∀ x ∈ L2, x ∈ L) (hg : g ∈ L2) (hb : b ∈ L2) : impl_rr.Lp w0 W g b n v L2 vo acc vd r :=
  ⟨h.st, h.sep.imp (fun N hh => ⟨Kd.S_mono hh.1 (fun k hk => ⟨fun x hx => hk.1 x (hL x hx), hk.2⟩), Kd.R_mono hh.2 (fun k hk => ⟨fun x hx => hk.1 x (hL x hx), hk.2⟩)⟩), h.bl, hg, hb, fun x hx => h.hL x (hL x hx)⟩
end
theorem impl_rr.apart {w : World} {A : Option Addr} {xs : List Int} {g b : Nat} (h : Kd.C (Kd.int .u8) w A xs.length xs) (hg : w.heap.size ≤ g) (hb : w.heap.size ≤ b) : 0 < xs.length → ∀ ad, A = some ad → ad.block ≠ g ∧ ad.block ≠ b := fun hl ad e => by
  obtain ⟨ad', e', hx⟩ := Kd.at_int h 0 (by omega) (by omega)
  have hbl := World.block_lt_of_cell? w _ hx
  have hab : (ad'.add (0 : Int).toNat).block = ad'.block := by unfold Addr.add; split <;> rfl
  rw [hab] at hbl
  rw [e] at e'
  injection e' with e'
  subst e'
  exact ⟨by omega, by omega⟩
theorem impl_rr.len_ok {n x : Nat} (h1 : n ≤ 1000000 * x) (h2 : x ≤ 400) : n + 2000 < maxLen := by
  show n + 2000 < 2 ^ 63 - 1
  omega
theorem impl_rr.c5 {W : World} {g t : Nat} {a0 a1 a2 a3 a4 : Value} (h : W.heap[g]? = some (.cells #[a0, a1, a2, a3, a4] t (0, 0))) :
    W.cell? ⟨g, 0, none⟩ = some a0 ∧ W.frozen? ⟨g, 0, none⟩ = false ∧ W.cell? ⟨g, 1, none⟩ = some a1 ∧ W.frozen? ⟨g, 1, none⟩ = false ∧ W.cell? ⟨g, 2, none⟩ = some a2 ∧ W.frozen? ⟨g, 2, none⟩ = false ∧ W.cell? ⟨g, 3, none⟩ = some a3 ∧ W.frozen? ⟨g, 3, none⟩ = false ∧ W.cell? ⟨g, 4, none⟩ = some a4 ∧ W.frozen? ⟨g, 4, none⟩ = false :=
  ⟨(blk_cell h 0).trans rfl, blk_frozen h 0, (blk_cell h 1).trans rfl, blk_frozen h 1, (blk_cell h 2).trans rfl, blk_frozen h 2, (blk_cell h 3).trans rfl, blk_frozen h 3, (blk_cell h 4).trans rfl, blk_frozen h 4⟩
set_option maxHeartbeats 8000000 in
set_option maxRecDepth 100000 in
theorem impl_rr.calls (k : Nat) (win : Int) (A0 : Option Addr) (c0 : Nat) (ops : List (S34)) (out : List (S39)) (w : World) (hr0 : Kd.C k34 w A0 ops.length ops) (hc0 : ops.length ≤ c0) (hw : ∀ o ∈ ops, ∀ x ∈ o.f3, (Lit.int .u8 x).wf = true) (hl : ops.length ≤ 400) (h1 : 1 ≤ win) (h2 : win ≤ 16384)
    (h : impl_rr.run k ops ⟨0, win, win, 0, 0, 0, false, fun _ => none, 0⟩ [] = some out) :
    Calls Try.prog 7 #[.int .i64 win, .slice A0 ops.length c0] w fun e w' => ∃ v0, e = .returned (.tuple #[v0, .int .i64 0]) ∧ Kd.S k39 39 w' w.heap.size (fun _ => True) v0 out ∧ Below w.heap.size w w' := by
  have HR := Aside0.mk hr0
  have HC := Aside0.mk hc0
  have HW := Aside0.mk hw
  have HLN := Aside0.mk hl
  have q1 : decide (400 < (ops.length : Int)) = false := decide_eq_false (by omega)
  have q2 : decide (win < 1) = false := decide_eq_false (by omega)
  have q3 : decide (16384 < win) = false := decide_eq_false (by omega)
  have H := Aside0.mk h
  clear hr0 hc0 hw hl h1 h2 h
  go_enter Try.func7, Try.ntmps7
  go_upto_block 0 with (first | (go_at_call 13; refine (impl_rc.new_calls win _).mono ?_; rintro e w1 ⟨g, b, rfl, hs_, hb_, hg_, hbb_⟩; have HS := Aside0.mk hs_; have HB := am (below_step (show Below w.heap.size w _ from by repeat (first | (with_reducible first | exact Below.refl _ _ | apply below_alloc | apply pw_below_drewN | apply below_drew1) | exact Below.refl _ _)) hb_); have HGG := am (show w.heap.size ≤ g from hg_); have HBG := am (show w.heap.size ≤ b from hbb_); clear hs_ hb_ hg_ hbb_) | ((with_reducible refine gate_dst (N := 22) rfl ?_); refine Kd.S_lit k39 _ 39 ?hg (N := 22) ?hd (xs := ([] : List (S39))) (inner := []) (ok := fun _ => True) (okp := fun _ => True) ?hr ?hp (fun _ hk => hk) trivial (Below.refl _ _) (Nat.le_refl _) (by simp) ?_; (case hd => rfl); (case hg => rfl); (case hr => first | (go_simp; done) | (go_simp; rfl)); (case hp => exact (Reps.none _ _)); intro vo w3 ho hb hg_ hnew_; have HL := am (impl_rr.Lp.first (by with_reducible repeat (first | exact HS.out | apply impl_rc.St.drewN | apply impl_rc.St.drew)) HGG.out HBG.out (hq HB.out) ho hb); clear HS HB ho hb hg_ hnew_))
  go_wp2
  go_loopg [7, 25] ops.length (fun kq vo v25 wr => ∃ (x : Nat) (n : Nat) (v : impl_rc.V) (acc : List (S39)) (vd : Value) (r : List Int), v25 = .int .i64 (x : Int) ∧ Aside0 (x + kq = ops.length) ∧ Aside0 (n ≤ 1000000 * x) ∧ Aside0 (acc.length = x) ∧ Aside0 (impl_rr.run k (ops.drop x) v acc = some out) ∧ Aside0 (impl_rr.Lp w wr g b n v [g, b] vo acc vd r))
  case atStart => exact ⟨0, 0, _, _, _, _, rfl, ⟨Nat.zero_add _⟩, ⟨Nat.le_refl _⟩, ⟨rfl⟩, H, HL⟩
  case round =>
    clear H HL
    obtain ⟨x, n, v, acc, vd, r, rfl, HI, HN, HA, H, HL⟩ := hrel
    by_cases c7 : x < ops.length
    · have q7 : decide ((x : Int) < (ops.length : Int)) = true := decide_eq_true (by omega)
      cases gk with
      | zero => exact absurd HI.out (by omega)
      | succ k1 =>
        obtain ⟨ob, v2, hst, hrun⟩ := impl_rr.run_cons c7 H.out
        have HST := Aside0.mk hst
        have HRUN := Aside0.mk hrun
        clear H hst hrun
        have p0 : (0 : Int) ≤ (x : Int) := by omega
        have p1 : (x : Int) < (ops.length : Int) := by omega
        obtain ⟨ad, A3, c3, ea, x0, x1, x2, x3, x4, l3, g3⟩ := at_T34 HR.out (x : Int) p0 p1
        have HWO := am (show ∀ y ∈ (rd_T34 ops (x : Int)).f3, (Lit.int .u8 y).wf = true from HW.out _ (by show ops.getD (x : Int).toNat z34 ∈ ops; rw [Int.toNat_natCast, List.getD_eq_getElem?_getD, List.getElem?_eq_getElem c7]; exact List.getElem_mem c7))
        obtain ⟨o, ho⟩ : ∃ o, o = rd_T34 ops (x : Int) := ⟨_, rfl⟩
        rw [← ho] at x0 x1 x2 x3 x4 l3 g3 HST HWO
        clear ho
        subst ea
        obtain ⟨f0, f1, f2, f3, f4⟩ := o
        dsimp only at x0 x1 x2 x3 x4 l3 g3 HWO
        replace x0 := (HL.out.bl.cell (World.block_lt_of_cell? w _ x0)).trans x0
        replace x1 := (HL.out.bl.cell (World.block_lt_of_cell? w _ x1)).trans x1
        replace x2 := (HL.out.bl.cell (World.block_lt_of_cell? w _ x2)).trans x2
        replace x3 := (HL.out.bl.cell (World.block_lt_of_cell? w _ x3)).trans x3
        replace x4 := (HL.out.bl.cell (World.block_lt_of_cell? w _ x4)).trans x4
        simp only [Int.toNat_natCast] at x0 x1 x2 x3 x4
        have HL3 := Aside0.mk l3
        have HG3 := Aside0.mk g3
        clear l3 g3
        have q7n : decide (x < ops.length) = true := decide_eq_true c7
        clear c7
        go_upto_region 10 with (first | ((with_reducible refine gate_dst (N := 9) rfl ?_); refine box_event ?hg (N := 9) ?hd (cs := #[.int .i64 0, .int .i64 0, .int .i64 0, .slice none 0 0, .bool false]) (t := 34) ?hr ?_; (case hd => rfl); (case hg => rfl); (case hr => first | (go_simp; done) | (go_simp; rfl)); intro g9 hg w5 hbox hb; have n1_ := am (impl_rr.Lp.box (show impl_rr.Lp w _ g b n v [g, b] u7 acc vd r from by (with_reducible repeat (first | apply impl_rr.Lp.drewN | apply impl_rr.Lp.drew | apply impl_rr.Lp.alloc)); exact HL.out) hb hg hbox); have NG9 := am (impl_rr.Lp.ne (show impl_rr.Lp w _ g b n v [g, b] u7 acc vd r from by (with_reducible repeat (first | apply impl_rr.Lp.drewN | apply impl_rr.Lp.drew | apply impl_rr.Lp.alloc)); exact HL.out) hg); clear HL; have HL := n1_; clear n1_; have BX9 := Aside0.mk hbox; obtain ⟨z9_0, q9_0, z9_1, q9_1, z9_2, q9_2, z9_3, q9_3, z9_4, q9_4⟩ := impl_rr.c5 hbox; clear hb hg hbox))
        refine impl_rc.cwp_seal (fun W_ => impl_rr.Lp w W_ g b n v [g9, g, b] u7 acc vd r ∧ W_.heap[g9]? = some (.cells #[.int .i64 f0, .int .i64 f1, .int .i64 f2, .slice A3 f3.length c3, .bool f4] 34 (0, 0))) ⟨(by (with_reducible repeat (first | exact HL.out | apply impl_rr.Lp.drewN | apply impl_rr.Lp.drew | apply impl_rr.Lp.alloc | refine impl_rr.Lp.set ?_ (x := g9) (by simp) (NG9.out g (by simp)) (NG9.out b (by simp)) _ _)); done), (bu (blk_put (cs := #[.int .i64 f0, .int .i64 f1, .int .i64 f2, .slice A3 f3.length c3, .bool false]) (bu (blk_put (cs := #[.int .i64 f0, .int .i64 f1, .int .i64 f2, .slice none 0 0, .bool false]) (bu (blk_put (cs := #[.int .i64 f0, .int .i64 f1, .int .i64 0, .slice none 0 0, .bool false]) (bu (blk_put (cs := #[.int .i64 f0, .int .i64 0, .int .i64 0, .slice none 0 0, .bool false]) (bu (blk_put (cs := #[.int .i64 0, .int .i64 0, .int .i64 0, .slice none 0 0, .bool false]) (bq BX9.out) 0 _ rfl)) 1 _ rfl)) 2 _ rfl)) 3 _ rfl)) 4 _ rfl))⟩ ?_
        clear HL BX9 z9_0 q9_0 z9_1 q9_1 z9_2 q9_2 z9_3 q9_3 z9_4 q9_4
        rintro w6 ⟨h1_, h2_⟩
        have HL := Aside0.mk h1_.nodat
        have BX9 := Aside0.mk h2_
        clear h1_ h2_
        have HX9 := am (impl_rr.c5 BX9.out)
        obtain ⟨z9_0, q9_0, z9_1, q9_1, z9_2, q9_2, z9_3, q9_3, z9_4, q9_4⟩ := HX9.out
        clear HX9
        go_upto_block 2 with (first | ((with_reducible refine gate_dst (N := 10) rfl ?_); refine box_event ?hg (N := 10) ?hd (cs := #[.int .i64 0, .int .i64 0, .int .i64 0, .slice none 0 0, .bool false]) (t := 39) ?hr ?_; (case hd => rfl); (case hg => rfl); (case hr => first | (go_simp; done) | (go_simp; rfl)); intro g10 hg w7 hbox hb; have m9_ := am (blk_below (show _ = some (.cells #[.int .i64 f0, .int .i64 f1, .int .i64 f2, .slice A3 f3.length c3, .bool f4] 34 (0, 0)) from by (with_reducible repeat (first | refine blk_drewN ?_ _ | refine blk_drew ?_ | refine blk_alloc ?_ _)); exact BX9.out) hb); have NG910 := am (show g9 ≠ g10 from by rw [hg]; exact Nat.ne_of_lt (blk_lt (show _ = some (.cells #[.int .i64 f0, .int .i64 f1, .int .i64 f2, .slice A3 f3.length c3, .bool f4] 34 (0, 0)) from by (with_reducible repeat (first | refine blk_drewN ?_ _ | refine blk_drew ?_ | refine blk_alloc ?_ _)); exact BX9.out))); clear BX9; have BX9 := m9_; clear m9_; clear z9_0 q9_0 z9_1 q9_1 z9_2 q9_2 z9_3 q9_3 z9_4 q9_4; obtain ⟨z9_0, q9_0, z9_1, q9_1, z9_2, q9_2, z9_3, q9_3, z9_4, q9_4⟩ := impl_rr.c5 BX9.out; have NX9_ : g9 ≠ g10 := NG910.out; have NX10_ : g10 ≠ g9 := NG910.out.symm; have n1_ := am (impl_rr.Lp.box (show impl_rr.Lp w _ g b n v [g9, g, b] u7 acc (.slice none 0 0) [] from by (with_reducible repeat (first | apply impl_rr.Lp.drewN | apply impl_rr.Lp.drew | apply impl_rr.Lp.alloc)); exact HL.out) hb hg hbox); have NG10 := am (impl_rr.Lp.ne (show impl_rr.Lp w _ g b n v [g9, g, b] u7 acc (.slice none 0 0) [] from by (with_reducible repeat (first | apply impl_rr.Lp.drewN | apply impl_rr.Lp.drew | apply impl_rr.Lp.alloc)); exact HL.out) hg); clear HL; have HL := n1_; clear n1_; have BX10 := Aside0.mk hbox; obtain ⟨z10_0, q10_0, z10_1, q10_1, z10_2, q10_2, z10_3, q10_3, z10_4, q10_4⟩ := impl_rr.c5 hbox; clear hb hg hbox))
        refine impl_rc.cwp_seal (fun W_ => impl_rr.Lp w W_ g b n v [g10, g9, g, b] u7 acc (.slice none 0 0) [] ∧ W_.heap[g9]? = some (.cells #[.int .i64 f0, .int .i64 f1, .int .i64 f2, .slice A3 f3.length c3, .bool f4] 34 (0, 0)) ∧ W_.heap[g10]? = some (.cells #[.int .i64 1, .int .i64 0, .int .i64 0, .slice none 0 0, .bool false] 39 (0, 0))) ⟨(by (with_reducible repeat (first | exact HL.out | apply impl_rr.Lp.drewN | apply impl_rr.Lp.drew | apply impl_rr.Lp.alloc | refine impl_rr.Lp.set ?_ (x := g10) (by simp) (NG10.out g (by simp)) (NG10.out b (by simp)) _ _)); done), by (with_reducible repeat (first | refine blk_drewN ?_ _ | refine blk_drew ?_ | refine blk_alloc ?_ _ | refine blk_far ?_ NG910.out _)); exact BX9.out, (bu (blk_put (cs := #[.int .i64 1, .int .i64 0, .int .i64 0, .slice none 0 0, .bool false]) (bu (blk_put (cs := #[.int .i64 1, .int .i64 0, .int .i64 0, .slice none 0 0, .bool false]) (bu (blk_put (cs := #[.int .i64 1, .int .i64 0, .int .i64 0, .slice none 0 0, .bool false]) (bu (blk_put (cs := #[.int .i64 1, .int .i64 0, .int .i64 0, .slice none 0 0, .bool false]) (bu (blk_put (cs := #[.int .i64 0, .int .i64 0, .int .i64 0, .slice none 0 0, .bool false]) (bq BX10.out) 0 _ rfl)) 1 _ rfl)) 2 _ rfl)) 3 _ rfl)) 4 _ rfl))⟩ ?_
        clear HL BX9 BX10 NX9_ NX10_ z9_0 q9_0 z9_1 q9_1 z9_2 q9_2 z9_3 q9_3 z9_4 q9_4 z10_0 q10_0 z10_1 q10_1 z10_2 q10_2 z10_3 q10_3 z10_4 q10_4
        rintro w8 ⟨h1_, h2_, h3_⟩
        have HL := Aside0.mk h1_
        have BX9 := Aside0.mk h2_
        have BX10 := Aside0.mk h3_
        clear h1_ h2_ h3_
        go_cut [] from 32 to 62 (fun wc => ∃ (n2 : Nat) (vd2 : Value), Aside0 (n2 ≤ 1000000 * (x + 1)) ∧ Aside0 (impl_rr.Lp w wc g b n2 v2 [g10, g9, g, b] u7 acc vd2 ob.f3) ∧ Aside0 (wc.heap[g10]? = some (.cells #[.int .i64 ob.f0, .int .i64 0, .int .i64 0, vd2, .bool ob.f4] 39 (0, 0))) ∧ ob.f1 = v2.st ∧ ob.f2 = v2.told)
        case first =>
          clear HRUN
          obtain ⟨z9_0, q9_0, z9_1, q9_1, z9_2, q9_2, z9_3, q9_3, z9_4, q9_4⟩ := impl_rr.c5 BX9.out
          have hst := HST.out
          clear HST
          unfold impl_rr.step at hst
          dsimp only at hst
          by_cases k1_ : f0 = 1
          · rw [if_pos k1_] at hst
            subst k1_
            by_cases kl : f3.length ≤ 1000000
            · rw [if_pos kl] at hst
              simp only [Option.some.injEq, Prod.mk.injEq] at hst
              obtain ⟨rfl, rfl⟩ := hst
              have HKL := Aside0.mk kl
              clear kl
              go_wp2_with (first | (go_at_call 14; refine (impl_rc.data_calls g b n v f1 A3 c3 f3 f4 _ (show impl_rr.Lp w _ g b n v [g10, g9, g, b] u7 acc (.slice none 0 0) [] from by (with_reducible repeat (first | apply impl_rr.Lp.drewN | apply impl_rr.Lp.drew | apply impl_rr.Lp.alloc)); exact HL.out).st (Kd.C_below HG3.out (show impl_rr.Lp w _ g b n v [g10, g9, g, b] u7 acc (.slice none 0 0) [] from by (with_reducible repeat (first | apply impl_rr.Lp.drewN | apply impl_rr.Lp.drew | apply impl_rr.Lp.alloc)); exact HL.out).bl) HWO.out HL3.out (impl_rr.len_ok HN.out (by have := HI.out; have := HLN.out; omega)) (impl_rr.apart HG3.out HGG.out HBG.out)).mono ?_; rintro e w9 ⟨rfl, hs_, hk_⟩; have m1_ := am (impl_rr.Lp.call (show impl_rr.Lp w _ g b n v [g10, g9, g, b] u7 acc (.slice none 0 0) [] from by (with_reducible repeat (first | apply impl_rr.Lp.drewN | apply impl_rr.Lp.drew | apply impl_rr.Lp.alloc)); exact HL.out) hs_ hk_); have m2_ := am (show w9.heap[g10]? = some (.cells #[.int .i64 1, .int .i64 0, .int .i64 0, .slice none 0 0, .bool false] 39 (0, 0)) from (hk_.kb g10 (blk_lt (show _ = some (Obj.cells #[.int .i64 1, .int .i64 0, .int .i64 0, .slice none 0 0, .bool false] 39 (0, 0)) from by (with_reducible repeat (first | refine blk_drewN ?_ _ | refine blk_drew ?_ | refine blk_alloc ?_ _)); exact BX10.out)) (NG10.out g (by simp)) (NG10.out b (by simp))).trans (show _ = some (Obj.cells #[.int .i64 1, .int .i64 0, .int .i64 0, .slice none 0 0, .bool false] 39 (0, 0)) from by (with_reducible repeat (first | refine blk_drewN ?_ _ | refine blk_drew ?_ | refine blk_alloc ?_ _)); exact BX10.out)); clear HL BX9 BX10 z9_0 q9_0 z9_1 q9_1 z9_2 q9_2 z9_3 q9_3 z9_4 q9_4; have HL := m1_; have BX10 := m2_; clear m1_ m2_; obtain ⟨z10_0, q10_0, z10_1, q10_1, z10_2, q10_2, z10_3, q10_3, z10_4, q10_4⟩ := impl_rr.c5 BX10.out; clear hs_ hk_))
              go_meet
              exact ⟨n + f3.length, .slice none 0 0, ⟨by have := HN.out; have := HKL.out; omega⟩, ⟨(by (with_reducible repeat (first | exact HL.out | apply impl_rr.Lp.drewN | apply impl_rr.Lp.drew | apply impl_rr.Lp.alloc | refine impl_rr.Lp.set ?_ (x := g10) (by simp) (NG10.out g (by simp)) (NG10.out b (by simp)) _ _)); done)⟩, ⟨(bu (blk_put (cs := #[.int .i64 1, .int .i64 0, .int .i64 0, .slice none 0 0, .bool false]) (bq BX10.out) 0 _ rfl))⟩, (by first | exact ⟨rfl, rfl⟩ | exact ⟨trivial, rfl⟩ | trivial | simp)⟩
            · rw [if_neg kl] at hst; exact absurd hst (by simp)
          · rw [if_neg k1_] at hst
            have e1_ : (f0 == 1) = false := beq_eq_false_iff_ne.2 k1_
            clear k1_
            by_cases k2_ : f0 = 2
            · rw [if_pos k2_] at hst
              subst k2_
              simp only [Option.some.injEq, Prod.mk.injEq] at hst
              obtain ⟨rfl, rfl⟩ := hst
              go_wp2_with (first | (go_at_call 15; refine (impl_rc.reset_calls g b n v f2 _ (show impl_rr.Lp w _ g b n v [g10, g9, g, b] u7 acc (.slice none 0 0) [] from by (with_reducible repeat (first | apply impl_rr.Lp.drewN | apply impl_rr.Lp.drew | apply impl_rr.Lp.alloc)); exact HL.out).st).mono ?_; rintro e w9 ⟨rfl, hs_, hk_⟩; have m1_ := am (impl_rr.Lp.call (show impl_rr.Lp w _ g b n v [g10, g9, g, b] u7 acc (.slice none 0 0) [] from by (with_reducible repeat (first | apply impl_rr.Lp.drewN | apply impl_rr.Lp.drew | apply impl_rr.Lp.alloc)); exact HL.out) hs_ hk_); have m2_ := am (show w9.heap[g10]? = some (.cells #[.int .i64 1, .int .i64 0, .int .i64 0, .slice none 0 0, .bool false] 39 (0, 0)) from (hk_.kb g10 (blk_lt (show _ = some (Obj.cells #[.int .i64 1, .int .i64 0, .int .i64 0, .slice none 0 0, .bool false] 39 (0, 0)) from by (with_reducible repeat (first | refine blk_drewN ?_ _ | refine blk_drew ?_ | refine blk_alloc ?_ _)); exact BX10.out)) (NG10.out g (by simp)) (NG10.out b (by simp))).trans (show _ = some (Obj.cells #[.int .i64 1, .int .i64 0, .int .i64 0, .slice none 0 0, .bool false] 39 (0, 0)) from by (with_reducible repeat (first | refine blk_drewN ?_ _ | refine blk_drew ?_ | refine blk_alloc ?_ _)); exact BX10.out)); clear HL BX9 BX10 z9_0 q9_0 z9_1 q9_1 z9_2 q9_2 z9_3 q9_3 z9_4 q9_4; have HL := m1_; have BX10 := m2_; clear m1_ m2_; obtain ⟨z10_0, q10_0, z10_1, q10_1, z10_2, q10_2, z10_3, q10_3, z10_4, q10_4⟩ := impl_rr.c5 BX10.out; clear hs_ hk_))
              go_meet
              exact ⟨n, .slice none 0 0, ⟨by have := HN.out; omega⟩, ⟨(by (with_reducible repeat (first | exact HL.out | apply impl_rr.Lp.drewN | apply impl_rr.Lp.drew | apply impl_rr.Lp.alloc | refine impl_rr.Lp.set ?_ (x := g10) (by simp) (NG10.out g (by simp)) (NG10.out b (by simp)) _ _)); done)⟩, ⟨(bu (blk_put (cs := #[.int .i64 1, .int .i64 0, .int .i64 0, .slice none 0 0, .bool false]) (bq BX10.out) 0 _ rfl))⟩, (by first | exact ⟨rfl, rfl⟩ | exact ⟨trivial, rfl⟩ | trivial | simp)⟩
            · rw [if_neg k2_] at hst
              have e2_ : (f0 == 2) = false := beq_eq_false_iff_ne.2 k2_
              clear k2_
              by_cases k3_ : f0 = 3
              · rw [if_pos k3_] at hst
                subst k3_
                obtain ⟨⟨⟨r2, en, code⟩, v3⟩, htk, hst2⟩ := Option.bind_eq_some_iff.1 hst
                clear hst
                dsimp only at hst2
                simp only [Option.some.injEq, Prod.mk.injEq] at hst2
                obtain ⟨rfl, rfl⟩ := hst2
                have HTK := Aside0.mk htk
                clear htk
                go_wp2_with (first | (go_at_call 16; refine (impl_rc.take_calls k g b n v v3 f2 r2 en code _ (show impl_rr.Lp w _ g b n v [g10, g9, g, b] u7 acc (.slice none 0 0) [] from by (with_reducible repeat (first | apply impl_rr.Lp.drewN | apply impl_rr.Lp.drew | apply impl_rr.Lp.alloc)); exact HL.out).st HTK.out).mono ?_; rintro e w9 ⟨v0_, rfl, hr_, hs_, hk_⟩; obtain ⟨A4, c4, rfl⟩ := Kd.R_slice hr_; have m1_ := am (impl_rr.Lp.took (show impl_rr.Lp w _ g b n v [g10, g9, g, b] u7 acc (.slice none 0 0) [] from by (with_reducible repeat (first | apply impl_rr.Lp.drewN | apply impl_rr.Lp.drew | apply impl_rr.Lp.alloc)); exact HL.out) hr_ hs_ hk_); have m2_ := am (show w9.heap[g10]? = some (.cells #[.int .i64 1, .int .i64 0, .int .i64 0, .slice none 0 0, .bool false] 39 (0, 0)) from (hk_.kb g10 (blk_lt (show _ = some (Obj.cells #[.int .i64 1, .int .i64 0, .int .i64 0, .slice none 0 0, .bool false] 39 (0, 0)) from by (with_reducible repeat (first | refine blk_drewN ?_ _ | refine blk_drew ?_ | refine blk_alloc ?_ _)); exact BX10.out)) (NG10.out g (by simp)) (NG10.out b (by simp))).trans (show _ = some (Obj.cells #[.int .i64 1, .int .i64 0, .int .i64 0, .slice none 0 0, .bool false] 39 (0, 0)) from by (with_reducible repeat (first | refine blk_drewN ?_ _ | refine blk_drew ?_ | refine blk_alloc ?_ _)); exact BX10.out)); clear HL BX9 BX10 z9_0 q9_0 z9_1 q9_1 z9_2 q9_2 z9_3 q9_3 z9_4 q9_4; have HL := m1_; have BX10 := m2_; clear m1_ m2_; obtain ⟨z10_0, q10_0, z10_1, q10_1, z10_2, q10_2, z10_3, q10_3, z10_4, q10_4⟩ := impl_rr.c5 BX10.out; clear hr_ hs_ hk_))
                go_meet
                exact ⟨n, .slice A4 r2.length c4, ⟨by have := HN.out; omega⟩, ⟨(by (with_reducible repeat (first | exact HL.out | apply impl_rr.Lp.drewN | apply impl_rr.Lp.drew | apply impl_rr.Lp.alloc | refine impl_rr.Lp.set ?_ (x := g10) (by simp) (NG10.out g (by simp)) (NG10.out b (by simp)) _ _)); done)⟩, ⟨(bu (blk_put (cs := #[.int .i64 1, .int .i64 0, .int .i64 0, .slice A4 r2.length c4, .bool en]) (bu (blk_put (cs := #[.int .i64 1, .int .i64 0, .int .i64 0, .slice A4 r2.length c4, .bool false]) (bu (blk_put (cs := #[.int .i64 1, .int .i64 0, .int .i64 0, .slice none 0 0, .bool false]) (bq BX10.out) 3 _ rfl)) 4 _ rfl)) 0 _ rfl))⟩, (by first | exact ⟨rfl, rfl⟩ | exact ⟨trivial, rfl⟩ | trivial | simp)⟩
              · rw [if_neg k3_] at hst
                have e3_ : (f0 == 3) = false := beq_eq_false_iff_ne.2 k3_
                clear k3_
                simp only [Option.some.injEq, Prod.mk.injEq] at hst
                obtain ⟨rfl, rfl⟩ := hst
                go_wp2
                go_meet
                exact ⟨n, .slice none 0 0, ⟨by have := HN.out; omega⟩, ⟨(by (with_reducible repeat (first | exact HL.out | apply impl_rr.Lp.drewN | apply impl_rr.Lp.drew | apply impl_rr.Lp.alloc | refine impl_rr.Lp.set ?_ (x := g10) (by simp) (NG10.out g (by simp)) (NG10.out b (by simp)) _ _)); done)⟩, ⟨by (with_reducible repeat (first | refine blk_drewN ?_ _ | refine blk_drew ?_ | refine blk_alloc ?_ _)); exact BX10.out⟩, (by first | exact ⟨rfl, rfl⟩ | exact ⟨trivial, rfl⟩ | trivial | simp)⟩
        case rest =>
          clear HL BX9 BX10 HST
          obtain ⟨n2, vd2, HN2, HL, BX10, eo1, eo2⟩ := hcut
          refine impl_rc.next_ (by assumption) ?_
          obtain ⟨A4, c4, rfl⟩ := Kd.R_slice HL.out.dat
          obtain ⟨z10_0, q10_0, z10_1, q10_1, z10_2, q10_2, z10_3, q10_3, z10_4, q10_4⟩ := impl_rr.c5 BX10.out
          obtain ⟨y0, f0_, y1, f1_, y2, f2_, y3, f3_, y4, f4_, y5, f5_, y6, f6_, y7, f7_⟩ := impl_rc.c8 HL.out.st.s
          rw [← eo1] at y0
          rw [← eo2] at y1
          clear eo1 eo2
          have nx1_ : g10 ≠ g := NG10.out g (by simp)
          have nx2_ : g ≠ g10 := nx1_.symm
          go_upto_region 19 with (fail)
          go_cut [] from 63 to 72 (fun wc => Aside0 (impl_rr.Lp w wc g b n2 v2 [g10, g9, g, b] u7 acc (.slice A4 ob.f3.length c4) ob.f3) ∧ Aside0 (wc.heap[g10]? = some (.cells #[.int .i64 ob.f0, .int .i64 ob.f1, .int .i64 ob.f2, .slice A4 ob.f3.length c4, .bool ob.f4] 39 (0, 0))))
          case first =>
            go_region_with (fail)
            all_goals go_wp2
            all_goals go_meet
            all_goals exact ⟨⟨(by (with_reducible repeat (first | exact HL.out | apply impl_rr.Lp.drewN | apply impl_rr.Lp.drew | apply impl_rr.Lp.alloc | refine impl_rr.Lp.set ?_ (x := g10) (by simp) (NG10.out g (by simp)) (NG10.out b (by simp)) _ _)); done)⟩, ⟨(bu (blk_put (cs := #[.int .i64 ob.f0, .int .i64 ob.f1, .int .i64 0, .slice A4 ob.f3.length c4, .bool ob.f4]) (bu (blk_put (cs := #[.int .i64 ob.f0, .int .i64 0, .int .i64 0, .slice A4 ob.f3.length c4, .bool ob.f4]) (bq BX10.out) 1 _ rfl)) 2 _ rfl))⟩⟩
          case rest =>
            clear HL BX10 z10_0 q10_0 z10_1 q10_1 z10_2 q10_2 z10_3 q10_3 z10_4 q10_4
            obtain ⟨HL, BX10⟩ := hcut
            refine impl_rc.next_ (by assumption) ?_
            obtain ⟨z10_0, q10_0, z10_1, q10_1, z10_2, q10_2, z10_3, q10_3, z10_4, q10_4⟩ := impl_rr.c5 BX10.out
            obtain ⟨N_, hs1_, hs2_⟩ := HL.out.sep
            have HS1 := Aside0.mk hs1_
            have HS2 := Aside0.mk hs2_
            clear hs1_ hs2_
            go_wp2_with (first | ((with_reducible refine gate_builtin (b := .append) (xs := #[.tmp 73, .tmp 75]) rfl ?_); (try (refine gate_guard (by rfl) ?_; dsimp only)); at_builtin; refine Kd.S_append k39 (w0 := w) w.heap.size rfl (.tmp 73) (.tmp 75) 35 39 (.agg #[.int .i64 0, .int .i64 0, .int .i64 0, .slice none 0 0, .bool false]) 56 rfl Try.underlying35 impl_rr.info rfl (by decide) (by omega) _ acc ob [.int .i64 ob.f0, .int .i64 ob.f1, .int .i64 ob.f2, .slice A4 ob.f3.length c4, .bool ob.f4] (fun k => ∀ x ∈ [g10, g9, g, b], k ≠ x) (fun k => (∀ x ∈ [g10, g9, g, b], k ≠ x) ∧ some k ≠ u7.ownBlock ∧ N_ ≤ k) rfl rfl ?aP (fun _ hk => ⟨hk.1, hk.2.1⟩) ?aF ?aO ?aB ?aS ?aL ?_; (case aP => exact k39_mkM _ _ _ ob (rq HS2.out)); (case aF => exact (show impl_rr.Lp w _ g b n2 v2 [g10, g9, g, b] u7 acc (.slice A4 ob.f3.length c4) ob.f3 from by (with_reducible repeat (first | apply impl_rr.Lp.drewN | apply impl_rr.Lp.drew | apply impl_rr.Lp.alloc)); exact HL.out).fresh); (case aO => exact Kd.S_mono (ok := fun k => (∀ x ∈ [g10, g9, g, b], k ≠ x) ∧ k < N_) (by (with_reducible repeat (first | apply Kd.S_alloc | apply Kd.S_drewN | apply Kd.S_drew)); exact HS1.out) (fun k hk => ⟨hk.1, fun h_ => by have := hk.2; have := h_.2.2; omega⟩)); (case aB => exact (show impl_rr.Lp w _ g b n2 v2 [g10, g9, g, b] u7 acc (.slice A4 ob.f3.length c4) ob.f3 from by (with_reducible repeat (first | apply impl_rr.Lp.drewN | apply impl_rr.Lp.drew | apply impl_rr.Lp.alloc)); exact HL.out).bl); (case aS => exact (show impl_rr.Lp w _ g b n2 v2 [g10, g9, g, b] u7 acc (.slice A4 ob.f3.length c4) ob.f3 from by (with_reducible repeat (first | apply impl_rr.Lp.drewN | apply impl_rr.Lp.drew | apply impl_rr.Lp.alloc)); exact HL.out).bl.size); (case aL => have := HA.out; have := HI.out; have := HLN.out; omega); intro v1 w25 ho hb hg hat; have n1_ := am (impl_rr.Lp.app (show impl_rr.Lp w _ g b n2 v2 [g10, g9, g, b] u7 acc (.slice A4 ob.f3.length c4) ob.f3 from by (with_reducible repeat (first | apply impl_rr.Lp.drewN | apply impl_rr.Lp.drew | apply impl_rr.Lp.alloc)); exact HL.out) ho hb hg); clear HL; have HL := n1_; clear n1_ ho hb hg hat))
            go_roundg k1
            case measure => have := HI.out; omega
            case rel =>
              exact ⟨x + 1, n2, v2, acc ++ [ob], .slice none 0 0, [], (by first | (rw [IntWalk.wrap64_in ((x : Int) + 1) (by have := HLN.out; have := HI.out; omega), show ((x : Int) + 1) = ((x + 1 : Nat) : Int) by omega]; done) | (rw [show ((x : Int) + 1) = ((x + 1 : Nat) : Int) by omega]; done)), ⟨by have := HI.out; omega⟩, HN2, ⟨by rw [List.length_append, HA.out]; rfl⟩, HRUN, ⟨(show impl_rr.Lp w _ g b n2 v2 [g10, g9, g, b] _ (acc ++ [ob]) _ _ from by (with_reducible repeat (first | apply impl_rr.Lp.drewN | apply impl_rr.Lp.drew | apply impl_rr.Lp.alloc)); exact HL.out).fewer (by simp) (by simp) (by simp)⟩⟩
    · have q7 : decide ((x : Int) < (ops.length : Int)) = false := decide_eq_false (by omega)
      have q7n : decide (x < ops.length) = false := decide_eq_false c7
      have eq_ := impl_rr.run_nil c7 H.out
      subst eq_
      clear H c7
      go_wp2
      go_ret2
      exact ⟨_, rfl, Kd.S_mono (show Kd.S k39 39 _ w.heap.size (fun k => ∀ x ∈ [g, b], k ≠ x) u7 acc from by (with_reducible repeat (first | apply Kd.S_drewN | apply Kd.S_drew)); exact HL.out.row) (fun _ _ => trivial), (by (with_reducible repeat (first | exact HL.out.bl | apply pw_below_drewN | apply below_drew1)); first | done | exact HL.out.bl)⟩


theorem impl_rc.ready_mono (f : Int → Option Int) (read nn : Int) : ∀ (k : Nat) (acc : List Int), LeO (impl_rc.ready f read nn k acc) (impl_rc.ready f read nn (k + 1) acc)
  | 0, acc => fun r h => by simp [impl_rc.ready] at h
  | k + 1, acc => fun r h => by
    rw [impl_rc.ready] at h ⊢
    by_cases c1 : (acc.length : Int) < nn
    · rw [if_pos c1] at h ⊢
      by_cases c2 : acc.length ≤ 100000000
      · rw [if_pos c2] at h ⊢
        cases hf : f (wrap64 (read + (acc.length : Int))) with
        | none => rw [hf] at h; exact h
        | some x => rw [hf] at h; exact impl_rc.ready_mono f read nn k _ r h
      · rw [if_neg c2] at h; exact absurd h (by simp)
    · rw [if_neg c1] at h ⊢; exact h
theorem impl_rc.take_mono (k : Nat) (v : impl_rc.V) (nn : Int) : LeO (impl_rc.take k v nn) (impl_rc.take (k + 1) v nn) := by
  unfold impl_rc.take
  exact LeO.ite (LeO.refl _) (LeO.ite (LeO.refl _) (LeO.ite (LeO.refl _) (LeO.bind (impl_rc.ready_mono _ _ _ _ _) (fun _ => LeO.ite (LeO.ite (LeO.refl _) (LeO.ite (LeO.bind (impl_CreditNext.mono _ _ _ _) (fun _ => LeO.refl _)) (LeO.refl _))) (LeO.none _)))))
theorem impl_rr.step_mono (k : Nat) (v : impl_rc.V) (o : S34) : LeO (impl_rr.step k v o) (impl_rr.step (k + 1) v o) := by
  unfold impl_rr.step
  exact LeO.ite (LeO.refl _) (LeO.ite (LeO.refl _) (LeO.ite (LeO.bind (impl_rc.take_mono _ _ _) (fun _ => LeO.refl _)) (LeO.refl _)))
theorem impl_rr.run_mono (k : Nat) : ∀ (os : List (S34)) (v : impl_rc.V) (acc : List (S39)), LeO (impl_rr.run k os v acc) (impl_rr.run (k + 1) os v acc)
  | [], _, _ => LeO.refl _
  | _ :: os, _, _ => LeO.bind (impl_rr.step_mono _ _ _) (fun _ => impl_rr.run_mono k os _ _)
noncomputable def impl_RecvRun.f (k : Nat) (a0 : Int) (l1 : List (S34)) : Option (List (S39) × Int) :=
  if 1 ≤ a0 ∧ a0 ≤ 16384 ∧ l1.length ≤ 400 ∧ (∀ o ∈ l1, ∀ x ∈ o.f3, (Lit.int .u8 x).wf = true) then (impl_rr.run k l1 ⟨0, a0, a0, 0, 0, 0, false, fun _ => none, 0⟩ []).bind fun out => some (out, 0) else none
theorem impl_RecvRun.mono : ∀ a0 l1 k, LeO (impl_RecvRun.f k a0 l1) (impl_RecvRun.f (k + 1) a0 l1) := by
  intro a0 l1 k
  unfold impl_RecvRun.f
  exact LeO.ite (LeO.bind (impl_rr.run_mono _ _ _ _) (fun _ => LeO.refl _)) (LeO.none _)
theorem impl_RecvRun.calls (k : Nat) (a0 : Int) (A1 : Option Addr) (c1 : Nat) (l1 : List (S34)) (r1 : List (S39)) (r2 : Int) (w : World) (hr1 : Kd.C k34 w A1 l1.length l1) (hc1 : l1.length ≤ c1) (h : impl_RecvRun.f k a0 l1 = some (r1, r2)) :
    Calls Try.prog 7 #[.int .i64 a0, .slice A1 l1.length c1] w fun e w' => ∃ v0_ : Value, e = .returned (.tuple #[v0_, .int .i64 r2]) ∧ Kd.S k39 39 w' w.heap.size (fun _ => True) v0_ r1 ∧ Below w.heap.size w w' := by
  unfold impl_RecvRun.f at h
  by_cases c : 1 ≤ a0 ∧ a0 ≤ 16384 ∧ l1.length ≤ 400 ∧ (∀ o ∈ l1, ∀ x ∈ o.f3, (Lit.int .u8 x).wf = true)
  · rw [if_pos c] at h
    obtain ⟨out, h1, h2⟩ := Option.bind_eq_some_iff.1 h
    simp only [Option.some.injEq, Prod.mk.injEq] at h2
    obtain ⟨rfl, rfl⟩ := h2
    exact impl_rr.calls k a0 A1 c1 l1 _ w hr1 hc1 c.2.2.2 c.2.2.1 c.1 c.2.1 h1
  · rw [if_neg c] at h; exact absurd h (by simp)

end Go.Proofs.Ytkmopmoglgcamaa.PFnPipe
