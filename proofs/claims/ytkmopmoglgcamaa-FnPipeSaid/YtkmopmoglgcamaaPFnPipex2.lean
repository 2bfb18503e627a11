-- Written by a program of this repo (xprint.py) out of the translation; Lean checks it. SHRUNK
import Derived.Test.YtkmopmoglgcamaaPFnPipex0
import Derived.Test.YtkmopmoglgcamaaPFnPipex1
namespace Go.Proofs.Ytkmopmoglgcamaa.PFnPipe
open Go.RowKit Go.Proofs.YtkmopmoglgcamaaW.PrintWords Go.Proofs.YtkmopmoglgcamaaW.PrintLast Go.Proofs.YtkmopmoglgcamaaW.PrintMore
attribute [local go_sem] max2_int min2_int max_two min_two max_three min_three max_four min_four   -- for this text's walks alone
set_option linter.unusedVariables false
set_option linter.unusedSimpArgs false

/-! ### impl_SendRun: function 6 -/
/-! The sending part: its block g, its two rows of bytes. -/
structure impl_sd.V where
  st : Int
  credit : Int
  data : List Int
  is : List Int
  sent : Nat
  finish : Bool
  fin : Int
structure impl_sd.St (w : World) (base g : Nat) (v : impl_sd.V) (vd vi : Value) : Prop where
  s : w.heap[g]? = some (.cells #[.int .i64 v.st, .int .i64 v.credit, vd, vi, .int .i64 (v.sent : Int), .bool v.finish, .int .u8 v.fin] 43 (0, 0))
  d : (Kd.int .u8).R 5 w base (fun k => k ≠ g ∧ some k ≠ vi.ownBlock) vd v.data
  i : (Kd.int .u8).R 5 w base (fun k => k ≠ g ∧ some k ≠ vd.ownBlock) vi v.is
  b : base ≤ g
/-- What a call on it leaves as it was. -/
structure impl_sd.Kp (w W : World) (base g : Nat) (vd vi vd' vi' : Value) : Prop where
  sz : w.heap.size ≤ W.heap.size
  kb : ∀ k, k < w.heap.size → k ≠ g → some k ≠ vd.ownBlock → some k ≠ vi.ownBlock → W.heap[k]? = w.heap[k]?
  bl : Below base w W
  nd : vd'.ownBlock = vd.ownBlock ∨ ∃ b, vd'.ownBlock = some b ∧ w.heap.size ≤ b
  ni : vi'.ownBlock = vi.ownBlock ∨ ∃ b, vi'.ownBlock = some b ∧ w.heap.size ≤ b
section
variable {w W W2 : World} {base g : Nat} {v v' : impl_sd.V} {vd vi vd' vi' vd2 vi2 : Value}
theorem impl_sd.St.below (h : impl_sd.St w base g v vd vi) (hb : Below w.heap.size w W) : impl_sd.St W base g v vd vi := ⟨blk_below h.s hb, Kd.R_below h.d hb, Kd.R_below h.i hb, h.b⟩
theorem impl_sd.St.drew (h : impl_sd.St w base g v vd vi) : impl_sd.St w.drew base g v vd vi := h.below (below_drew1 (Below.refl _ _))
theorem impl_sd.St.drewN (h : impl_sd.St w base g v vd vi) (m : Nat) : impl_sd.St (w.drewN m) base g v vd vi := h.below (pw_below_drewN (Below.refl _ _) m)
theorem impl_sd.St.alloc (h : impl_sd.St w base g v vd vi) (o : Obj) : impl_sd.St (w.alloc o) base g v vd vi := h.below (below_alloc (Below.refl _ _) o)
theorem impl_sd.Kp.refl (w : World) (base g : Nat) (vd vi : Value) : impl_sd.Kp w w base g vd vi vd vi := ⟨Nat.le_refl _, fun _ _ _ _ _ => rfl, Below.refl _ _, .inl rfl, .inl rfl⟩
theorem impl_sd.Kp.below (h : impl_sd.Kp w W base g vd vi vd' vi') (hB : base ≤ W.heap.size) (hb : Below W.heap.size W W2) : impl_sd.Kp w W2 base g vd vi vd' vi' :=
  ⟨Nat.le_trans h.sz hb.size, fun k hk h1 h2 h3 => (hb.block k (Nat.lt_of_lt_of_le hk h.sz)).trans (h.kb k hk h1 h2 h3), h.bl.trans (hb.mono hB), h.nd, h.ni⟩
theorem impl_sd.Kp.trans (h : impl_sd.Kp w W base g vd vi vd' vi') (k : impl_sd.Kp W W2 base g vd' vi' vd2 vi2) : impl_sd.Kp w W2 base g vd vi vd2 vi2 := by
  have no : ∀ {u u' : Value}, (u'.ownBlock = u.ownBlock ∨ ∃ b, u'.ownBlock = some b ∧ w.heap.size ≤ b) → ∀ q, q < w.heap.size → some q ≠ u.ownBlock → some q ≠ u'.ownBlock := fun hu q hq hn he => by
    rcases hu with hu | ⟨b, hb, hle⟩
    · exact hn (he.trans hu)
    · rw [hb] at he
      injection he with he
      omega
  refine ⟨Nat.le_trans h.sz k.sz, fun q hq h1 h2 h3 => (k.kb q (Nat.lt_of_lt_of_le hq h.sz) h1 (no h.nd q hq h2) (no h.ni q hq h3)).trans (h.kb q hq h1 h2 h3), h.bl.trans k.bl, ?_, ?_⟩
  · rcases k.nd with e | ⟨b, hb, hle⟩
    · rw [e]; exact h.nd
    · exact .inr ⟨b, hb, Nat.le_trans h.sz hle⟩
  · rcases k.ni with e | ⟨b, hb, hle⟩
    · rw [e]; exact h.ni
    · exact .inr ⟨b, hb, Nat.le_trans h.sz hle⟩
theorem impl_sd.Kp.drewN (h : impl_sd.Kp w W base g vd vi vd' vi') (m : Nat) : impl_sd.Kp w (W.drewN m) base g vd vi vd' vi' := ⟨h.sz, h.kb, pw_below_drewN h.bl m, h.nd, h.ni⟩
theorem impl_sd.Kp.drew (h : impl_sd.Kp w W base g vd vi vd' vi') : impl_sd.Kp w W.drew base g vd vi vd' vi' := ⟨h.sz, h.kb, h.bl.drew, h.nd, h.ni⟩
/-- A plain cell is written. -/
theorem impl_sd.St.set (h : impl_sd.St w base g v vd vi) (j : Nat) (u : Value)
    (e : (#[.int .i64 v.st, .int .i64 v.credit, vd, vi, .int .i64 (v.sent : Int), .bool v.finish, .int .u8 v.fin] : Array Value).setIfInBounds j u = #[.int .i64 v'.st, .int .i64 v'.credit, vd, vi, .int .i64 (v'.sent : Int), .bool v'.finish, .int .u8 v'.fin]) (ed : v'.data = v.data) (ei : v'.is = v.is) : impl_sd.St (w.setCell ⟨g, j, none⟩ u) base g v' vd vi :=
  ⟨blk_put h.s j u e, by rw [ed]; exact Kd.R_far h.d (fun k hk => hk.1) u, by rw [ei]; exact Kd.R_far h.i (fun k hk => hk.1) u, h.b⟩
theorem impl_sd.Kp.set (h : impl_sd.Kp w W base g vd vi vd' vi') (hb : base ≤ g) (j : Nat) (u : Value) : impl_sd.Kp w (W.setCell ⟨g, j, none⟩ u) base g vd vi vd' vi' :=
  ⟨by simpa [World.setCell] using h.sz, fun k hk h1 h2 h3 => (Below.heap_setCell W ⟨g, j, none⟩ u k h1).trans (h.kb k hk h1 h2 h3), h.bl.setCell hb u, h.nd, h.ni⟩
end
theorem impl_sd.c7 {W : World} {g t : Nat} {a0 a1 a2 a3 a4 a5 a6 : Value} (h : W.heap[g]? = some (.cells #[a0, a1, a2, a3, a4, a5, a6] t (0, 0))) :
    W.cell? ⟨g, 0, none⟩ = some a0 ∧ W.frozen? ⟨g, 0, none⟩ = false ∧ W.cell? ⟨g, 1, none⟩ = some a1 ∧ W.frozen? ⟨g, 1, none⟩ = false ∧ W.cell? ⟨g, 2, none⟩ = some a2 ∧ W.frozen? ⟨g, 2, none⟩ = false ∧ W.cell? ⟨g, 3, none⟩ = some a3 ∧ W.frozen? ⟨g, 3, none⟩ = false ∧ W.cell? ⟨g, 4, none⟩ = some a4 ∧ W.frozen? ⟨g, 4, none⟩ = false ∧ W.cell? ⟨g, 5, none⟩ = some a5 ∧ W.frozen? ⟨g, 5, none⟩ = false ∧ W.cell? ⟨g, 6, none⟩ = some a6 ∧ W.frozen? ⟨g, 6, none⟩ = false :=
  ⟨(blk_cell h 0).trans rfl, blk_frozen h 0, (blk_cell h 1).trans rfl, blk_frozen h 1, (blk_cell h 2).trans rfl, blk_frozen h 2, (blk_cell h 3).trans rfl, blk_frozen h 3, (blk_cell h 4).trans rfl, blk_frozen h 4, (blk_cell h 5).trans rfl, blk_frozen h 5, (blk_cell h 6).trans rfl, blk_frozen h 6⟩
theorem impl_sd.cwp_seal {P : Program} {c : Code} {Q : Exit → Act → World → Prop} {a : Act} {W : World} (F : World → Prop) (h : F W) (k : ∀ W', F W' → Code.wp P c Q a W') : Code.wp P c Q a W := k W h
theorem impl_sd.next_ {P : Program} {c : Code} {Q : Exit → Act → World → Prop} {K : Act → World → Prop} {a : Act} {W : World} (h : ∀ (a : Act) (w : World), Code.wp P c Q a w → K a w) (k : Code.wp P c Q a W) : K a W := h a W k
set_option maxHeartbeats 8000000 in
set_option maxRecDepth 100000 in
theorem impl_sd.open_calls (base g : Nat) (v : impl_sd.V) (vd vi : Value) (w : World) (h : impl_sd.St w base g v vd vi) :
    Calls Try.prog 17 #[.pointer (some ⟨g, 0, none⟩)] w fun e w' => e = .returned (.bool (v.st == 0 || v.st == 1)) ∧ w' = w := by
  obtain ⟨y0, f0, y1, f1, y2, f2, y3, f3, y4, f4, y5, f5, y6, f6⟩ := impl_sd.c7 h.s
  obtain ⟨d1, hd1⟩ : ∃ d : Bool, d = (v.st == 0) := ⟨_, rfl⟩
  obtain ⟨d2, hd2⟩ : ∃ d : Bool, d = (v.st == 1) := ⟨_, rfl⟩
  rw [← hd1, ← hd2]
  have e1 := hd1.symm
  have e2 := hd2.symm
  clear h hd1 hd2
  cases d1 with
  | true =>
    go_enter Try.func17, Try.ntmps17
    go_wp2
    go_ret
    exact ⟨rfl, rfl⟩
  | false =>
    go_enter Try.func17, Try.ntmps17
    go_wp2
    go_ret
    exact ⟨rfl, rfl⟩
theorem impl_sd.info : (Try.prog.info? 5).map (fun i => (i.zero, i.size, i.bytes)) = some (some (.int .u8 0), 1, 1) := by kernel_rfl
theorem impl_sd.St.neD {w : World} {base g : Nat} {v : impl_sd.V} {vd vi : Value} (h : impl_sd.St w base g v vd vi) : some g ≠ vd.ownBlock := fun e => (h.d.1 g e.symm).1 rfl
theorem impl_sd.St.neI {w : World} {base g : Nat} {v : impl_sd.V} {vd vi : Value} (h : impl_sd.St w base g v vd vi) : some g ≠ vi.ownBlock := fun e => (h.i.1 g e.symm).1 rfl
theorem impl_sd.St.oldD {W W1 : World} {base g : Nat} {v : impl_sd.V} {vd vi : Value} (h : impl_sd.St W base g v vd vi) (hg : W.grownBy W1 vd.ownBlock) : W1.heap[g]? = some (.cells #[.int .i64 v.st, .int .i64 v.credit, vd, vi, .int .i64 (v.sent : Int), .bool v.finish, .int .u8 v.fin] 43 (0, 0)) := (hg.block g (blk_lt h.s) h.neD).trans h.s
theorem impl_sd.St.oldI {W W1 : World} {base g : Nat} {v : impl_sd.V} {vd vi : Value} (h : impl_sd.St W base g v vd vi) (hg : W.grownBy W1 vi.ownBlock) : W1.heap[g]? = some (.cells #[.int .i64 v.st, .int .i64 v.credit, vd, vi, .int .i64 (v.sent : Int), .bool v.finish, .int .u8 v.fin] 43 (0, 0)) := (hg.block g (blk_lt h.s) h.neI).trans h.s
/-- The first row has grown. -/
theorem impl_sd.St.turnD {W W1 : World} {base g : Nat} {v : impl_sd.V} {vd vi vd1 : Value} {xs : List Int} (h : impl_sd.St W base g v vd vi) (ho : (Kd.int .u8).R 5 W1 base (fun k => k ≠ g ∧ some k ≠ vi.ownBlock) vd1 xs) (hg : W.grownBy W1 vd.ownBlock) (hat : vd1.ownBlock = vd.ownBlock ∨ ∃ b, vd1.ownBlock = some b ∧ W.heap.size ≤ b) :
    impl_sd.St (W1.setCell ⟨g, 2, none⟩ vd1) base g { v with data := xs } vd1 vi :=
  ⟨blk_put ((hg.block g (blk_lt h.s) h.neD).trans h.s) 2 vd1 rfl, Kd.R_far ho (fun k hk => hk.1) vd1, Kd.R_far (Kd.R_after (ok := fun k => k ≠ g) h.i hg hat) (fun k hk => hk.1) vd1, h.b⟩
theorem impl_sd.St.turnI {W W1 : World} {base g : Nat} {v : impl_sd.V} {vd vi vi1 : Value} {xs : List Int} (h : impl_sd.St W base g v vd vi) (ho : (Kd.int .u8).R 5 W1 base (fun k => k ≠ g ∧ some k ≠ vd.ownBlock) vi1 xs) (hg : W.grownBy W1 vi.ownBlock) (hat : vi1.ownBlock = vi.ownBlock ∨ ∃ b, vi1.ownBlock = some b ∧ W.heap.size ≤ b) :
    impl_sd.St (W1.setCell ⟨g, 3, none⟩ vi1) base g { v with is := xs } vd vi1 :=
  ⟨blk_put ((hg.block g (blk_lt h.s) h.neI).trans h.s) 3 vi1 rfl, Kd.R_far (Kd.R_after (ok := fun k => k ≠ g) h.d hg hat) (fun k hk => hk.1) vi1, Kd.R_far ho (fun k hk => hk.1) vi1, h.b⟩
theorem impl_sd.Kp.turnD {w W W1 : World} {base g : Nat} {vd0 vi0 vd vi vd1 : Value} (h : impl_sd.Kp w W base g vd0 vi0 vd vi) (hb : base ≤ g) (hB : Below base w W1) (hg : W.grownBy W1 vd.ownBlock) (hat : vd1.ownBlock = vd.ownBlock ∨ ∃ b, vd1.ownBlock = some b ∧ W.heap.size ≤ b) : impl_sd.Kp w (W1.setCell ⟨g, 2, none⟩ vd1) base g vd0 vi0 vd1 vi := by
  refine impl_sd.Kp.set ⟨Nat.le_trans h.sz hg.size, fun k hk h1 h2 h3 => (hg.block k (Nat.lt_of_lt_of_le hk h.sz) (fun e => ?_)).trans (h.kb k hk h1 h2 h3), hB, ?_, h.ni⟩ hb 2 vd1
  · rcases h.nd with e2 | ⟨b, hb2, hle⟩
    · exact h2 (e.trans e2)
    · rw [hb2] at e
      injection e with e
      omega
  · rcases hat with e | ⟨b, hb2, hle⟩
    · rw [e]; exact h.nd
    · exact .inr ⟨b, hb2, Nat.le_trans h.sz hle⟩
theorem impl_sd.Kp.turnI {w W W1 : World} {base g : Nat} {vd0 vi0 vd vi vi1 : Value} (h : impl_sd.Kp w W base g vd0 vi0 vd vi) (hb : base ≤ g) (hB : Below base w W1) (hg : W.grownBy W1 vi.ownBlock) (hat : vi1.ownBlock = vi.ownBlock ∨ ∃ b, vi1.ownBlock = some b ∧ W.heap.size ≤ b) : impl_sd.Kp w (W1.setCell ⟨g, 3, none⟩ vi1) base g vd0 vi0 vd vi1 := by
  refine impl_sd.Kp.set ⟨Nat.le_trans h.sz hg.size, fun k hk h1 h2 h3 => (hg.block k (Nat.lt_of_lt_of_le hk h.sz) (fun e => ?_)).trans (h.kb k hk h1 h2 h3), hB, h.nd, ?_⟩ hb 3 vi1
  · rcases h.ni with e2 | ⟨b, hb2, hle⟩
    · exact h3 (e.trans e2)
    · rw [hb2] at e
      injection e with e
      omega
  · rcases hat with e | ⟨b, hb2, hle⟩
    · rw [e]; exact h.ni
    · exact .inr ⟨b, hb2, Nat.le_trans h.sz hle⟩
theorem impl_sd.St.fresh {W : World} {base g : Nat} {v : impl_sd.V} {vd vi : Value} (h : impl_sd.St W base g v vd vi) : ∀ k, W.heap.size ≤ k → (k ≠ g ∧ some k ≠ vi.ownBlock) ∧ (k ≠ g ∧ some k ≠ vd.ownBlock) := fun k hk => by
  have h1 := blk_lt h.s
  have h2 : k ≠ g := by omega
  exact ⟨⟨h2, fun e => by have := Kd.R_lt h.i k e.symm; omega⟩, h2, fun e => by have := Kd.R_lt h.d k e.symm; omega⟩
def impl_sd.opens (v : impl_sd.V) : Bool := v.st == 0 || v.st == 1
def impl_sd.write (v : impl_sd.V) (data : List Int) : Int × impl_sd.V :=
  if (!impl_sd.opens v || v.finish) = true then (7, v)
  else if 65536 < v.data.length + data.length then (4, v)
  else (0, { v with data := v.data ++ data, is := v.is ++ List.replicate data.length 0 })
def impl_sd.finished (v : impl_sd.V) : Int × impl_sd.V := if (!impl_sd.opens v || v.finish) = true then (7, v) else (0, { v with finish := true })
set_option maxHeartbeats 8000000 in
set_option maxRecDepth 100000 in
theorem impl_sd.finished_calls (base g : Nat) (v : impl_sd.V) (vd vi : Value) (w : World) (h : impl_sd.St w base g v vd vi) :
    Calls Try.prog 10 #[.pointer (some ⟨g, 0, none⟩)] w fun e w' => e = .returned (.int .i64 (impl_sd.finished v).1) ∧ impl_sd.St w' base g (impl_sd.finished v).2 vd vi ∧ impl_sd.Kp w w' base g vd vi vd vi := by
  obtain ⟨st, credit, data_, is_, sent, finish, fin⟩ := v
  obtain ⟨Ad, cd, rfl⟩ := Kd.R_slice h.d
  obtain ⟨Ai, ci, rfl⟩ := Kd.R_slice h.i
  have HS := Aside0.mk h
  have HGB := Aside0.mk h.b
  obtain ⟨y1_0, f1_0, y1_1, f1_1, y1_2, f1_2, y1_3, f1_3, y1_4, f1_4, y1_5, f1_5, y1_6, f1_6⟩ := impl_sd.c7 h.s
  dsimp only at y1_0 y1_1 y1_2 y1_3 y1_4 y1_5 y1_6
  clear h
  obtain ⟨R, hR⟩ : ∃ R, R = impl_sd.finished ⟨st, credit, data_, is_, sent, finish, fin⟩ := ⟨_, rfl⟩
  rw [← hR]
  unfold impl_sd.finished impl_sd.opens at hR
  dsimp only at hR
  obtain ⟨o1, ho1⟩ : ∃ d : Bool, d = (st == 0 || st == 1) := ⟨_, rfl⟩
  rw [← ho1] at hR
  have eo := ho1.symm
  clear ho1
  have HRR := Aside0.mk hR
  clear hR
  cases o1 <;> cases finish
  · have hR := HRR.out
    clear HRR
    rw [if_pos (by simp)] at hR
    subst hR
    go_enter Try.func10, Try.ntmps10
    go_wp2_with (first | (go_at_call 17; refine (impl_sd.open_calls base g _ _ _ _ (show impl_sd.St _ base g ⟨st, credit, data_, is_, sent, false, fin⟩ _ _ from (by first | exact HS.out | exact HS.out.drew | exact HS.out.drewN _ | ((with_reducible repeat (first | exact HS.out | apply impl_sd.St.drewN | apply impl_sd.St.drew | apply impl_sd.St.alloc)); done)))).mono ?_; rintro e w7_ ⟨rfl, h7_⟩; have h8_ := h7_.symm; clear h7_; subst h8_))
    go_ret
    exact ⟨rfl, (by first | exact HS.out | exact HS.out.drew | exact HS.out.drewN _ | ((with_reducible repeat (first | exact HS.out | apply impl_sd.St.drewN | apply impl_sd.St.drew | apply impl_sd.St.alloc)); done)), impl_sd.Kp.refl _ _ _ _ _⟩
  · have hR := HRR.out
    clear HRR
    rw [if_pos (by simp)] at hR
    subst hR
    go_enter Try.func10, Try.ntmps10
    go_wp2_with (first | (go_at_call 17; refine (impl_sd.open_calls base g _ _ _ _ (show impl_sd.St _ base g ⟨st, credit, data_, is_, sent, true, fin⟩ _ _ from (by first | exact HS.out | exact HS.out.drew | exact HS.out.drewN _ | ((with_reducible repeat (first | exact HS.out | apply impl_sd.St.drewN | apply impl_sd.St.drew | apply impl_sd.St.alloc)); done)))).mono ?_; rintro e w7_ ⟨rfl, h7_⟩; have h8_ := h7_.symm; clear h7_; subst h8_))
    go_ret
    exact ⟨rfl, (by first | exact HS.out | exact HS.out.drew | exact HS.out.drewN _ | ((with_reducible repeat (first | exact HS.out | apply impl_sd.St.drewN | apply impl_sd.St.drew | apply impl_sd.St.alloc)); done)), impl_sd.Kp.refl _ _ _ _ _⟩
  · have hR := HRR.out
    clear HRR
    rw [if_neg (by simp)] at hR
    subst hR
    go_enter Try.func10, Try.ntmps10
    go_wp2_with (first | (go_at_call 17; refine (impl_sd.open_calls base g _ _ _ _ (show impl_sd.St _ base g ⟨st, credit, data_, is_, sent, false, fin⟩ _ _ from (by first | exact HS.out | exact HS.out.drew | exact HS.out.drewN _ | ((with_reducible repeat (first | exact HS.out | apply impl_sd.St.drewN | apply impl_sd.St.drew | apply impl_sd.St.alloc)); done)))).mono ?_; rintro e w7_ ⟨rfl, h7_⟩; have h8_ := h7_.symm; clear h7_; subst h8_))
    go_ret
    exact ⟨rfl, (by (with_reducible repeat (first | apply impl_sd.St.drewN | apply impl_sd.St.drew)); exact impl_sd.St.set (v := ⟨st, credit, data_, is_, sent, false, fin⟩) (by first | exact HS.out | exact HS.out.drew | exact HS.out.drewN _ | ((with_reducible repeat (first | exact HS.out | apply impl_sd.St.drewN | apply impl_sd.St.drew | apply impl_sd.St.alloc)); done)) 5 _ rfl rfl rfl), impl_sd.Kp.set (impl_sd.Kp.refl _ _ _ _ _) HGB.out 5 _⟩
  · have hR := HRR.out
    clear HRR
    rw [if_pos (by simp)] at hR
    subst hR
    go_enter Try.func10, Try.ntmps10
    go_wp2_with (first | (go_at_call 17; refine (impl_sd.open_calls base g _ _ _ _ (show impl_sd.St _ base g ⟨st, credit, data_, is_, sent, true, fin⟩ _ _ from (by first | exact HS.out | exact HS.out.drew | exact HS.out.drewN _ | ((with_reducible repeat (first | exact HS.out | apply impl_sd.St.drewN | apply impl_sd.St.drew | apply impl_sd.St.alloc)); done)))).mono ?_; rintro e w7_ ⟨rfl, h7_⟩; have h8_ := h7_.symm; clear h7_; subst h8_))
    go_ret
    exact ⟨rfl, (by first | exact HS.out | exact HS.out.drew | exact HS.out.drewN _ | ((with_reducible repeat (first | exact HS.out | apply impl_sd.St.drewN | apply impl_sd.St.drew | apply impl_sd.St.alloc)); done)), impl_sd.Kp.refl _ _ _ _ _⟩

set_option maxHeartbeats 8000000 in
set_option maxRecDepth 100000 in
theorem impl_sd.write_calls (base g : Nat) (v : impl_sd.V) (vd vi : Value) (A0 : Option Addr) (c0 : Nat) (data : List Int) (w : World) (h : impl_sd.St w base g v vd vi) (hr0 : Kd.C (Kd.int .u8) w A0 data.length data) (hc0 : data.length ≤ c0) (hl : v.is.length = v.data.length) (hd : v.data.length ≤ 65536) (hl2 : data.length ≤ 1000000) (hbs : base ≤ w.heap.size) :
    Calls Try.prog 9 #[.pointer (some ⟨g, 0, none⟩), .slice A0 data.length c0] w fun e w' => ∃ vd' vi', e = .returned (.int .i64 (impl_sd.write v data).1) ∧ impl_sd.St w' base g (impl_sd.write v data).2 vd' vi' ∧ impl_sd.Kp w w' base g vd vi vd' vi' := by
  obtain ⟨st, credit, data_, is_, sent, finish, fin⟩ := v
  dsimp only at hl hd
  obtain ⟨Ad, cd, rfl⟩ := Kd.R_slice h.d
  obtain ⟨Ai, ci, rfl⟩ := Kd.R_slice h.i
  dsimp only at h
  have HS := Aside0.mk h
  have HGB := Aside0.mk h.b
  obtain ⟨y1_0, f1_0, y1_1, f1_1, y1_2, f1_2, y1_3, f1_3, y1_4, f1_4, y1_5, f1_5, y1_6, f1_6⟩ := impl_sd.c7 h.s
  dsimp only at y1_0 y1_1 y1_2 y1_3 y1_4 y1_5 y1_6
  have HR := Aside0.mk hr0
  have HC := Aside0.mk hc0
  have HL := am (show is_.length = data_.length ∧ data_.length ≤ 65536 ∧ data.length ≤ 1000000 from ⟨hl, hd, hl2⟩)
  have HBS := Aside0.mk hbs
  have es : IntKind.i64.wrap ((data_.length : Int) + (data.length : Int)) = (data_.length : Int) + (data.length : Int) := IntWalk.i64_in _ (by omega)
  obtain ⟨R, hR⟩ : ∃ R, R = impl_sd.write ⟨st, credit, data_, is_, sent, finish, fin⟩ data := ⟨_, rfl⟩
  rw [← hR]
  unfold impl_sd.write impl_sd.opens at hR
  dsimp only at hR
  obtain ⟨o1, ho1⟩ : ∃ d : Bool, d = (st == 0 || st == 1) := ⟨_, rfl⟩
  rw [← ho1] at hR
  have eo := ho1.symm
  clear ho1 h hr0 hc0 hl hd hl2 hbs
  have HRR := Aside0.mk hR
  clear hR
  cases o1 <;> cases finish
  · have hR := HRR.out
    clear HRR
    rw [if_pos (by simp)] at hR
    subst hR
    go_enter Try.func9, Try.ntmps9
    go_wp2_with (first | (go_at_call 17; refine (impl_sd.open_calls base g _ _ _ _ (show impl_sd.St _ base g ⟨st, credit, data_, is_, sent, false, fin⟩ _ _ from (by first | exact HS.out | exact HS.out.drew | exact HS.out.drewN _ | ((with_reducible repeat (first | exact HS.out | apply impl_sd.St.drewN | apply impl_sd.St.drew | apply impl_sd.St.alloc)); done)))).mono ?_; rintro e w7_ ⟨rfl, h7_⟩; have h8_ := h7_.symm; clear h7_; subst h8_))
    go_ret
    exact ⟨_, _, rfl, (by first | exact HS.out | exact HS.out.drew | exact HS.out.drewN _ | ((with_reducible repeat (first | exact HS.out | apply impl_sd.St.drewN | apply impl_sd.St.drew | apply impl_sd.St.alloc)); done)), impl_sd.Kp.refl _ _ _ _ _⟩
  · have hR := HRR.out
    clear HRR
    rw [if_pos (by simp)] at hR
    subst hR
    go_enter Try.func9, Try.ntmps9
    go_wp2_with (first | (go_at_call 17; refine (impl_sd.open_calls base g _ _ _ _ (show impl_sd.St _ base g ⟨st, credit, data_, is_, sent, true, fin⟩ _ _ from (by first | exact HS.out | exact HS.out.drew | exact HS.out.drewN _ | ((with_reducible repeat (first | exact HS.out | apply impl_sd.St.drewN | apply impl_sd.St.drew | apply impl_sd.St.alloc)); done)))).mono ?_; rintro e w7_ ⟨rfl, h7_⟩; have h8_ := h7_.symm; clear h7_; subst h8_))
    go_ret
    exact ⟨_, _, rfl, (by first | exact HS.out | exact HS.out.drew | exact HS.out.drewN _ | ((with_reducible repeat (first | exact HS.out | apply impl_sd.St.drewN | apply impl_sd.St.drew | apply impl_sd.St.alloc)); done)), impl_sd.Kp.refl _ _ _ _ _⟩
  · have hR := HRR.out
    clear HRR
    rw [if_neg (by simp)] at hR
    by_cases cl : 65536 < data_.length + data.length
    · rw [if_pos cl] at hR
      subst hR
      have q1 : decide (65536 < (data_.length : Int) + (data.length : Int)) = true := decide_eq_true (by omega)
      clear cl
      go_enter Try.func9, Try.ntmps9
      go_wp2_with (first | (go_at_call 17; refine (impl_sd.open_calls base g _ _ _ _ (show impl_sd.St _ base g ⟨st, credit, data_, is_, sent, false, fin⟩ _ _ from (by first | exact HS.out | exact HS.out.drew | exact HS.out.drewN _ | ((with_reducible repeat (first | exact HS.out | apply impl_sd.St.drewN | apply impl_sd.St.drew | apply impl_sd.St.alloc)); done)))).mono ?_; rintro e w7_ ⟨rfl, h7_⟩; have h8_ := h7_.symm; clear h7_; subst h8_))
      go_ret
      exact ⟨_, _, rfl, (by first | exact HS.out | exact HS.out.drew | exact HS.out.drewN _ | ((with_reducible repeat (first | exact HS.out | apply impl_sd.St.drewN | apply impl_sd.St.drew | apply impl_sd.St.alloc)); done)), impl_sd.Kp.refl _ _ _ _ _⟩
    · rw [if_neg cl] at hR
      subst hR
      have q1 : decide (65536 < (data_.length : Int) + (data.length : Int)) = false := decide_eq_false (by omega)
      have HCL := am (show data_.length + data.length ≤ 65536 by omega)
      clear cl
      have HK := am (impl_sd.Kp.refl w base g (.slice Ad data_.length cd) (.slice Ai is_.length ci))
      obtain ⟨d2_, hd2_⟩ : ∃ y : List Int, y = data_ ++ data := ⟨_, rfl⟩
      obtain ⟨i2_, hi2_⟩ : ∃ y : List Int, y = is_ ++ List.replicate data.length 0 := ⟨_, rfl⟩
      have ND := Aside0.mk hd2_
      have NI := Aside0.mk hi2_
      rw [← hd2_, ← hi2_]
      clear hd2_ hi2_
      go_enter Try.func9, Try.ntmps9
      go_upto_region 6 with (first | (go_at_call 17; refine (impl_sd.open_calls base g _ _ _ _ (show impl_sd.St _ base g ⟨st, credit, data_, is_, sent, false, fin⟩ _ _ from (by first | exact HS.out | exact HS.out.drew | exact HS.out.drewN _ | ((with_reducible repeat (first | exact HS.out | apply impl_sd.St.drewN | apply impl_sd.St.drew | apply impl_sd.St.alloc)); done)))).mono ?_; rintro e w7_ ⟨rfl, h7_⟩; have h8_ := h7_.symm; clear h7_; subst h8_) | ((with_reducible refine gate_builtin (b := .append) (xs := #[.tmp 27, .tmp 28]) rfl ?_); (try (refine gate_guard (by rfl) ?_; dsimp only)); at_builtin; refine Kd.R_append_rows (Kd.int .u8) (w0 := w) base rfl (.tmp 27) (.tmp 28) 22 5 (.int .u8 0) 1 rfl Try.underlying22 impl_sd.info rfl (by decide) (by omega) (.slice Ad data_.length cd) data_ data _ _ _ (fun k => k ≠ g ∧ some k ≠ (.slice Ai is_.length ci : Value).ownBlock) (fun _ => False) rfl rfl ?aO ?aR (fun _ _ h => h) (fun _ h => h.elim) ?aF ?aB ?aS ?aL ?_; (case aO => exact (show impl_sd.St _ base g ⟨st, credit, data_, is_, sent, false, fin⟩ (.slice Ad data_.length cd) (.slice Ai is_.length ci) from by (with_reducible repeat (first | apply impl_sd.St.drewN | apply impl_sd.St.drew)); exact HS.out).d); (case aR => (repeat (first | exact HR.out | (with_reducible refine Kd.C_alloc ?_ _) | (with_reducible refine Kd.C_drewN ?_ _) | (with_reducible refine Kd.C_drew ?_)))); (case aF => exact (fun k hk => (impl_sd.St.fresh (show impl_sd.St _ base g ⟨st, credit, data_, is_, sent, false, fin⟩ (.slice Ad data_.length cd) (.slice Ai is_.length ci) from by (with_reducible repeat (first | apply impl_sd.St.drewN | apply impl_sd.St.drew)); exact HS.out) k hk).1)); (case aB => exact (show impl_sd.Kp w _ base g (.slice Ad data_.length cd) (.slice Ai is_.length ci) (.slice Ad data_.length cd) (.slice Ai is_.length ci) from by (with_reducible repeat (first | apply impl_sd.Kp.drewN | apply impl_sd.Kp.drew)); exact HK.out).bl); (case aS => exact (Nat.le_trans HBS.out (show impl_sd.Kp w _ base g (.slice Ad data_.length cd) (.slice Ai is_.length ci) (.slice Ad data_.length cd) (.slice Ai is_.length ci) from by (with_reducible repeat (first | apply impl_sd.Kp.drewN | apply impl_sd.Kp.drew)); exact HK.out).sz)); (case aL => have := HCL.out; omega); intro v1 w11 ho hb hg hat; rw [← ND.out] at ho; obtain ⟨A1, c1, rfl⟩ := Kd.R_slice ho; have T_ := am (impl_sd.St.turnD (show impl_sd.St _ base g ⟨st, credit, data_, is_, sent, false, fin⟩ (.slice Ad data_.length cd) (.slice Ai is_.length ci) from by (with_reducible repeat (first | apply impl_sd.St.drewN | apply impl_sd.St.drew)); exact HS.out) ho hg hat); have TK_ := am (impl_sd.Kp.turnD (show impl_sd.Kp w _ base g (.slice Ad data_.length cd) (.slice Ai is_.length ci) (.slice Ad data_.length cd) (.slice Ai is_.length ci) from by (with_reducible repeat (first | apply impl_sd.Kp.drewN | apply impl_sd.Kp.drew)); exact HK.out) HGB.out hb hg hat); obtain ⟨za0, zb0, za1, zb1, za2, zb2, za3, zb3, za4, zb4, za5, zb5, za6, zb6⟩ := impl_sd.c7 (impl_sd.St.oldD (show impl_sd.St _ base g ⟨st, credit, data_, is_, sent, false, fin⟩ (.slice Ad data_.length cd) (.slice Ai is_.length ci) from by (with_reducible repeat (first | apply impl_sd.St.drewN | apply impl_sd.St.drew)); exact HS.out) hg); clear HS HK ho hb hg hat))
      refine impl_sd.cwp_seal (fun W_ => impl_sd.St W_ base g ⟨st, credit, d2_, is_, sent, false, fin⟩ (.slice A1 d2_.length c1) (.slice Ai is_.length ci) ∧ impl_sd.Kp w W_ base g (.slice Ad data_.length cd) (.slice Ai is_.length ci) (.slice A1 d2_.length c1) (.slice Ai is_.length ci)) ⟨(by (with_reducible repeat (first | apply impl_sd.St.drewN | apply impl_sd.St.drew)); exact T_.out), (by (with_reducible repeat (first | apply impl_sd.Kp.drewN | apply impl_sd.Kp.drew)); exact TK_.out)⟩ ?_
      clear T_ TK_ za0 zb0 za1 zb1 za2 zb2 za3 zb3 za4 zb4 za5 zb5 za6 zb6
      rintro w12 ⟨h1_, h2_⟩
      have HS := Aside0.mk h1_
      have HK := Aside0.mk h2_
      clear h1_ h2_
      obtain ⟨y2_0, f2_0, y2_1, f2_1, y2_2, f2_2, y2_3, f2_3, y2_4, f2_4, y2_5, f2_5, y2_6, f2_6⟩ := impl_sd.c7 HS.out.s
      dsimp only at y2_0 y2_1 y2_2 y2_3 y2_4 y2_5 y2_6
      go_wp2_with (first | ((with_reducible refine gate_builtin (b := .append) (xs := #[.tmp 36, .tmp 38]) rfl ?_); (try (refine gate_guard (by rfl) ?_; dsimp only)); at_builtin; refine Kd.R_append_zeros (Kd.int .u8) (w0 := w) base rfl (.tmp 36) (.tmp 38) 22 3 5 (.int .u8 0) 1 rfl Try.underlying22 Try.underlying3 impl_sd.info rfl (by decide) (by omega) (.slice Ai is_.length ci) is_ (0 : Int) (data.length : Int) (fun k => k ≠ g ∧ some k ≠ (.slice A1 d2_.length c1 : Value).ownBlock) rfl rfl rfl ?aF ?aO (by omega) ?aB ?aS ?aL ?_; (case aO => exact (show impl_sd.St _ base g ⟨st, credit, d2_, is_, sent, false, fin⟩ (.slice A1 d2_.length c1) (.slice Ai is_.length ci) from by (with_reducible repeat (first | apply impl_sd.St.drewN | apply impl_sd.St.drew)); exact HS.out).i); (case aF => exact (fun k hk => (impl_sd.St.fresh (show impl_sd.St _ base g ⟨st, credit, d2_, is_, sent, false, fin⟩ (.slice A1 d2_.length c1) (.slice Ai is_.length ci) from by (with_reducible repeat (first | apply impl_sd.St.drewN | apply impl_sd.St.drew)); exact HS.out) k hk).2)); (case aB => exact (show impl_sd.Kp w _ base g (.slice Ad data_.length cd) (.slice Ai is_.length ci) (.slice A1 d2_.length c1) (.slice Ai is_.length ci) from by (with_reducible repeat (first | apply impl_sd.Kp.drewN | apply impl_sd.Kp.drew)); exact HK.out).bl); (case aS => exact (Nat.le_trans HBS.out (show impl_sd.Kp w _ base g (.slice Ad data_.length cd) (.slice Ai is_.length ci) (.slice A1 d2_.length c1) (.slice Ai is_.length ci) from by (with_reducible repeat (first | apply impl_sd.Kp.drewN | apply impl_sd.Kp.drew)); exact HK.out).sz)); (case aL => have := HCL.out; have := HL.out; omega); intro v2 w13 ho hb hg hat; simp only [Int.toNat_natCast] at ho; rw [← NI.out] at ho; obtain ⟨A2, c2, rfl⟩ := Kd.R_slice ho; have T_ := am (impl_sd.St.turnI (show impl_sd.St _ base g ⟨st, credit, d2_, is_, sent, false, fin⟩ (.slice A1 d2_.length c1) (.slice Ai is_.length ci) from by (with_reducible repeat (first | apply impl_sd.St.drewN | apply impl_sd.St.drew)); exact HS.out) ho hg hat); have TK_ := am (impl_sd.Kp.turnI (show impl_sd.Kp w _ base g (.slice Ad data_.length cd) (.slice Ai is_.length ci) (.slice A1 d2_.length c1) (.slice Ai is_.length ci) from by (with_reducible repeat (first | apply impl_sd.Kp.drewN | apply impl_sd.Kp.drew)); exact HK.out) HGB.out hb hg hat); obtain ⟨za0, zb0, za1, zb1, za2, zb2, za3, zb3, za4, zb4, za5, zb5, za6, zb6⟩ := impl_sd.c7 (impl_sd.St.oldI (show impl_sd.St _ base g ⟨st, credit, d2_, is_, sent, false, fin⟩ (.slice A1 d2_.length c1) (.slice Ai is_.length ci) from by (with_reducible repeat (first | apply impl_sd.St.drewN | apply impl_sd.St.drew)); exact HS.out) hg); clear HS HK ho hb hg hat))
      go_ret
      first | exact ⟨_, _, rfl, (by (with_reducible repeat (first | apply impl_sd.St.drewN | apply impl_sd.St.drew)); exact T_.out), (by (with_reducible repeat (first | apply impl_sd.Kp.drewN | apply impl_sd.Kp.drew)); exact TK_.out)⟩ | exact ⟨rfl, _, _, (by (with_reducible repeat (first | apply impl_sd.St.drewN | apply impl_sd.St.drew)); exact T_.out), (by (with_reducible repeat (first | apply impl_sd.Kp.drewN | apply impl_sd.Kp.drew)); exact TK_.out)⟩
  · have hR := HRR.out
    clear HRR
    rw [if_pos (by simp)] at hR
    subst hR
    go_enter Try.func9, Try.ntmps9
    go_wp2_with (first | (go_at_call 17; refine (impl_sd.open_calls base g _ _ _ _ (show impl_sd.St _ base g ⟨st, credit, data_, is_, sent, true, fin⟩ _ _ from (by first | exact HS.out | exact HS.out.drew | exact HS.out.drewN _ | ((with_reducible repeat (first | exact HS.out | apply impl_sd.St.drewN | apply impl_sd.St.drew | apply impl_sd.St.alloc)); done)))).mono ?_; rintro e w7_ ⟨rfl, h7_⟩; have h8_ := h7_.symm; clear h7_; subst h8_))
    go_ret
    exact ⟨_, _, rfl, (by first | exact HS.out | exact HS.out.drew | exact HS.out.drewN _ | ((with_reducible repeat (first | exact HS.out | apply impl_sd.St.drewN | apply impl_sd.St.drew | apply impl_sd.St.alloc)); done)), impl_sd.Kp.refl _ _ _ _ _⟩

/-- The first lost byte. -/
def impl_sd.find (is : List Int) : Nat → Nat → Option Nat
  | 0, _ => none
  | d + 1, i => if is.getD i 0 = 3 then some i else impl_sd.find is d (i + 1)
/-- Where the run of lost bytes from i on ends, after at most n. -/
def impl_sd.upto (is : List Int) (i : Nat) (n : Int) : Nat → Nat → Nat
  | 0, k => k
  | d + 1, k => if is.getD k 0 = 3 ∧ (k : Int) - (i : Int) < n then impl_sd.upto is i n d (k + 1) else k
def impl_sd.next (v : impl_sd.V) (n : Int) : Int × Int × Bool :=
  if 2 < v.st then (0, 0, false) else
  match impl_sd.find v.is v.sent 0 with
  | some i => ((i : Int), ((impl_sd.upto v.is i n (v.sent - i) i : Nat) : Int) - (i : Int), true)
  | none => if (v.sent : Int) < min (v.data.length : Int) v.credit then ((v.sent : Int), min n (min (v.data.length : Int) v.credit - (v.sent : Int)), true)
    else if (v.finish && ((v.sent : Int) == (v.data.length : Int)) && (v.fin == 0 || v.fin == 3)) = true then ((v.sent : Int), 0, true) else (0, 0, false)
theorem impl_sd.drew2 (w : World) (a b : Nat) : (w.drewN a).drewN b = w.drewN (a + b) := by simp [World.drewN, Nat.add_assoc]
theorem impl_sd.rdI {W : World} {base : Nat} {ok : Nat → Prop} {A : Option Addr} {c : Nat} {l : List Int} (h : (Kd.int .u8).R 5 W base ok (.slice A l.length c) l) (i : Nat) (hi : i < l.length) : ∃ ad, A = some ad ∧ W.cell? (ad.add i) = some (.int .u8 (l.getD i 0)) := by
  obtain ⟨ad, e, hx⟩ := Kd.at_int (Kd.R_reads' h).2.2 (i : Int) (by omega) (by omega)
  exact ⟨ad, e, hx⟩
set_option maxHeartbeats 8000000 in
set_option maxRecDepth 100000 in
theorem impl_sd.next_calls (base g : Nat) (v : impl_sd.V) (vd vi : Value) (n : Int) (w : World) (h : impl_sd.St w base g v vd vi) (hs : v.sent ≤ v.is.length) (hl : v.is.length ≤ 65536) (hd : v.data.length ≤ 65536) (hn : 1 ≤ n ∧ n ≤ 1500) (hc : 0 ≤ v.credit) :
    Calls Try.prog 18 #[.pointer (some ⟨g, 0, none⟩), .int .i64 n] w fun e w' => e = .returned (.tuple #[.int .i64 (impl_sd.next v n).1, .int .i64 (impl_sd.next v n).2.1, .bool (impl_sd.next v n).2.2]) ∧ ∃ m, w' = w.drewN m := by
  obtain ⟨st, credit, data_, is_, sent, finish, fin⟩ := v
  dsimp only at hs hl hd hc
  obtain ⟨Ad, cd, rfl⟩ := Kd.R_slice h.d
  obtain ⟨Ai, ci, rfl⟩ := Kd.R_slice h.i
  dsimp only at h
  have HS := Aside0.mk h
  obtain ⟨y1_0, f1_0, y1_1, f1_1, y1_2, f1_2, y1_3, f1_3, y1_4, f1_4, y1_5, f1_5, y1_6, f1_6⟩ := impl_sd.c7 h.s
  dsimp only at y1_0 y1_1 y1_2 y1_3 y1_4 y1_5 y1_6
  have HL := am (show sent ≤ is_.length ∧ is_.length ≤ 65536 ∧ data_.length ≤ 65536 ∧ 1 ≤ n ∧ n ≤ 1500 ∧ 0 ≤ credit from ⟨hs, hl, hd, hn.1, hn.2, hc⟩)
  clear h hs hl hd hn hc
  obtain ⟨R, hR⟩ : ∃ R, R = impl_sd.next ⟨st, credit, data_, is_, sent, finish, fin⟩ n := ⟨_, rfl⟩
  rw [← hR]
  unfold impl_sd.next at hR
  dsimp only at hR
  by_cases c1 : 2 < st
  · rw [if_pos c1] at hR
    subst hR
    have q1 : decide (2 < st) = true := decide_eq_true c1
    clear c1
    go_enter Try.func18, Try.ntmps18
    go_wp2
    go_ret3
    exact ⟨rfl, 0, rfl⟩
  · rw [if_neg c1] at hR
    have q1 : decide (2 < st) = false := decide_eq_false c1
    clear c1
    have HRR := Aside0.mk hR
    clear hR
    go_enter Try.func18, Try.ntmps18
    go_upto_block 0 with (fail)
    go_wp2
    go_loopg [7] sent (fun kq v7 wr => ∃ x : Nat, v7 = .int .i64 (x : Int) ∧ Aside0 (x + kq = sent) ∧ wr = w ∧ Aside0 (impl_sd.find is_ sent 0 = impl_sd.find is_ kq x))
    case atStart => exact ⟨0, rfl, ⟨Nat.zero_add _⟩, rfl, ⟨rfl⟩⟩
    case round =>
      obtain ⟨x, rfl, HI, hw_, HF⟩ := hrel
      have hw2_ := hw_.symm
      clear hw_
      subst hw2_
      cases gk with
      | zero =>
        have ex : x = sent := by have := HI.out; omega
        subst ex
        have q7 : decide ((x : Int) < (x : Int)) = false := decide_eq_false (by omega)
        have hR := HRR.out
        rw [show impl_sd.find is_ x 0 = none from HF.out] at hR
        dsimp only at hR
        have HRR2 := Aside0.mk hR
        clear hR HRR HF
        obtain ⟨to_, hto⟩ : ∃ z : Int, z = min (data_.length : Int) credit := ⟨_, rfl⟩
        have hR := HRR2.out
        rw [← hto] at hR
        have HRR3 := Aside0.mk hR
        clear hR HRR2
        have em : (if credit < (data_.length : Int) then credit else (data_.length : Int)) = to_ := by rw [hto, Int.min_def]; split <;> split <;> omega
        have HTO := am (show 0 ≤ to_ ∧ to_ ≤ (data_.length : Int) from by have := HL.out; rw [hto, Int.min_def]; split <;> omega)
        have HEM := Aside0.mk em
        clear em hto
        go_upto_region 11 with (fail)
        go_cut [9] from 61 (fun v9 wc => v9 = .int .i64 to_ ∧ ∃ mm, wc = w.drewN mm)
        case first =>
          go_region_with (fail)
          all_goals go_wp2
          all_goals go_meet
          all_goals exact ⟨by rw [← HEM.out]; first | rfl | (congr 1; split <;> first | rfl | omega | (simp_all; done) | (simp_all; omega)), _, rfl⟩
        case rest =>
          obtain ⟨rfl, mm, hw3_⟩ := hcut
          subst hw3_
          refine impl_sd.next_ (by assumption) ?_
          have hR := HRR3.out
          clear HRR3
          by_cases c12 : (x : Int) < to_
          · rw [if_pos c12] at hR
            subst hR
            have q12 : decide ((x : Int) < to_) = true := decide_eq_true c12
            have ew2 : IntKind.i64.wrap (to_ - (x : Int)) = to_ - (x : Int) := IntWalk.i64_in _ (by have := HTO.out; have := HL.out; omega)
            clear c12
            go_upto_region 13 with (fail)
            go_quiet (fail)
            all_goals (try refine impl_sd.next_ (by assumption) ?_)
            all_goals go_wp2
            all_goals go_ret3
            all_goals exact ⟨by first | rfl | (congr 2; simp only [Int.min_def]; split <;> first | rfl | omega | (simp_all; done) | (simp_all; omega)) | (simp only [Int.min_def]; split <;> first | rfl | omega | (simp_all; done) | (simp_all; omega)), _, rfl⟩
          · rw [if_neg c12] at hR
            have q12 : decide ((x : Int) < to_) = false := decide_eq_false c12
            clear c12
            have HRR := Aside0.mk hR
            clear hR
            go_upto_region 14 with (fail)
            go_cut [118] from 119 (fun v118 wc => v118 = .bool (finish && ((x : Int) == (data_.length : Int)) && (fin == 0 || fin == 3)) ∧ ∃ m2, wc = w.drewN m2)
            case first =>
              clear HRR
              obtain ⟨d1, hd1⟩ : ∃ d : Bool, d = ((x : Int) == (data_.length : Int)) := ⟨_, rfl⟩
              obtain ⟨d2, hd2⟩ : ∃ d : Bool, d = (fin == 0) := ⟨_, rfl⟩
              obtain ⟨d3, hd3⟩ : ∃ d : Bool, d = (fin == 3) := ⟨_, rfl⟩
              have HBD := am (show (finish && ((x : Int) == (data_.length : Int)) && (fin == 0 || fin == 3)) = (finish && d1 && (d2 || d3)) from by rw [hd1, hd2, hd3])
              have e1 := hd1.symm
              have e2 := hd2.symm
              have e3 := hd3.symm
              clear hd1 hd2 hd3
              cases finish with
              | false =>
                go_quiet (fail)
                all_goals (try go_wp2)
                all_goals go_meet
                all_goals exact ⟨by rw [HBD.out]; first | rfl | simp, _, (by first | rfl | exact impl_sd.drew2 _ _ _)⟩
              | true =>
                cases d1 with
                | false =>
                  go_quiet (fail)
                  all_goals (try go_wp2)
                  all_goals go_meet
                  all_goals exact ⟨by rw [HBD.out]; first | rfl | simp, _, (by first | rfl | exact impl_sd.drew2 _ _ _)⟩
                | true =>
                  cases d2 with
                  | true =>
                    go_quiet (fail)
                    all_goals (try go_wp2)
                    all_goals go_meet
                    all_goals exact ⟨by rw [HBD.out]; first | rfl | simp, _, (by first | rfl | exact impl_sd.drew2 _ _ _)⟩
                  | false =>
                    cases d3 with
                    | true =>
                      go_quiet (fail)
                      all_goals (try go_wp2)
                      all_goals go_meet
                      all_goals exact ⟨by rw [HBD.out]; first | rfl | simp, _, (by first | rfl | exact impl_sd.drew2 _ _ _)⟩
                    | false =>
                      go_quiet (fail)
                      all_goals (try go_wp2)
                      all_goals go_meet
                      all_goals exact ⟨by rw [HBD.out]; first | rfl | simp, _, (by first | rfl | exact impl_sd.drew2 _ _ _)⟩
            case rest =>
              obtain ⟨rfl, m2, hw4_⟩ := hcut
              subst hw4_
              refine impl_sd.next_ (by assumption) ?_
              have hR := HRR.out
              clear HRR
              cases hbd : (finish && ((x : Int) == (data_.length : Int)) && (fin == 0 || fin == 3)) with
              | true =>
                rw [if_pos hbd] at hR
                subst hR
                clear hbd
                go_wp2
                go_ret3
                exact ⟨rfl, m2, rfl⟩
              | false =>
                rw [if_neg (by rw [hbd]; simp)] at hR
                subst hR
                clear hbd
                go_wp2
                go_ret3
                exact ⟨rfl, m2, rfl⟩
      | succ k1 =>
        have hx_ : x < sent := by have := HI.out; omega
        have q7 : decide ((x : Int) < (sent : Int)) = true := decide_eq_true (by omega)
        have q7n : decide (x < sent) = true := decide_eq_true hx_
        obtain ⟨ad, ea, hxc⟩ := impl_sd.rdI HS.out.i x (by have := HL.out; omega)
        subst ea
        have p0 : (0 : Int) ≤ (x : Int) := by omega
        have p1 : (x : Int) < (is_.length : Int) := by have := HL.out; omega
        have p1n : x < is_.length := by have := HL.out; omega
        have hf := HF.out
        simp only [impl_sd.find] at hf
        obtain ⟨y, hy⟩ : ∃ y : Int, y = is_.getD x 0 := ⟨_, rfl⟩
        rw [← hy] at hf hxc
        have HY := Aside0.mk hy
        have HX := Aside0.mk hx_
        clear hy hx_
        by_cases c3 : y = 3
        · rw [if_pos c3] at hf
          subst c3
          have hR := HRR.out
          rw [hf] at hR
          dsimp only at hR
          have HRR2 := Aside0.mk hR
          clear hR HRR HF hf
          go_upto_block 2 with (fail)
          go_wp2
          go_loopg [8] (sent - x) (fun kq v8 wr => ∃ y : Nat, v8 = .int .i64 (y : Int) ∧ Aside0 (y + kq = sent ∧ x ≤ y) ∧ wr = w ∧ Aside0 (impl_sd.upto is_ x n (sent - x) x = impl_sd.upto is_ x n kq y))
          case atStart => exact ⟨x, rfl, ⟨by have := HX.out; omega, Nat.le_refl _⟩, rfl, ⟨rfl⟩⟩
          case round =>
            obtain ⟨z, rfl, HZ, hw_, HU⟩ := hrel
            have hw2_ := hw_.symm
            clear hw_
            subst hw2_
            have HE := am (show impl_sd.upto is_ x n (sent - x) x = impl_sd.upto is_ x n (sent - z) z from by have h_ := HU.out; have h2_ := HZ.out; rw [show sent - z = gk by omega]; exact h_)
            have ew : IntKind.i64.wrap ((z : Int) - (x : Int)) = (z : Int) - (x : Int) := IntWalk.i64_in _ (by have := HZ.out; have := HL.out; omega)
            by_cases c8 : z < sent
            · have q8 : decide ((z : Int) < (sent : Int)) = true := decide_eq_true (by omega)
              have q8n : decide (z < sent) = true := decide_eq_true c8
              obtain ⟨ad2, ea2, hxz⟩ := impl_sd.rdI HS.out.i z (by have := HL.out; omega)
              obtain rfl : ad = ad2 := by injection ea2
              clear ea2
              have pz0 : (0 : Int) ≤ (z : Int) := by omega
              have pz1 : (z : Int) < (is_.length : Int) := by have := HL.out; omega
              have pz1n : z < is_.length := by have := HL.out; omega
              obtain ⟨yz, hyz⟩ : ∃ y : Int, y = is_.getD z 0 := ⟨_, rfl⟩
              rw [← hyz] at hxz
              have HYZ := Aside0.mk hyz
              have HC8 := Aside0.mk c8
              clear hyz c8
              have HST := am (show impl_sd.upto is_ x n (sent - z) z = (if yz = 3 ∧ (z : Int) - (x : Int) < n then impl_sd.upto is_ x n (sent - (z + 1)) (z + 1) else z) from by rw [HYZ.out, show sent - z = (sent - (z + 1)) + 1 by have := HC8.out; omega]; rfl)
              by_cases c9 : yz = 3
              · have e9 : (yz == 3) = true := beq_iff_eq.2 c9
                by_cases c10 : (z : Int) - (x : Int) < n
                · have q10 : decide ((z : Int) - (x : Int) < n) = true := decide_eq_true c10
                  have HN2 := am (show impl_sd.upto is_ x n (sent - z) z = impl_sd.upto is_ x n (sent - (z + 1)) (z + 1) from by rw [HST.out, if_pos ⟨c9, c10⟩])
                  subst c9
                  clear c10
                  cases gk with
                  | zero => exact absurd HZ.out.1 (by have := HC8.out; omega)
                  | succ k2 =>
                    go_wp2
                    go_roundg k2
                    case measure => have := HZ.out; omega
                    case rel => exact ⟨z + 1, (by first | (rw [IntWalk.wrap64_in ((z : Int) + 1) (by have := HL.out; have := HZ.out; omega), show ((z : Int) + 1) = ((z + 1 : Nat) : Int) by omega]; done) | (rw [show ((z : Int) + 1) = ((z + 1 : Nat) : Int) by omega]; done)), ⟨by have := HZ.out; omega, by have := HZ.out; omega⟩, rfl, ⟨by rw [HE.out, HN2.out, show sent - (z + 1) = k2 by have := HZ.out; omega]⟩⟩
                · have q10 : decide ((z : Int) - (x : Int) < n) = false := decide_eq_false c10
                  have HQ := am (show impl_sd.upto is_ x n (sent - z) z = z from by rw [HST.out, if_neg (fun h_ => c10 h_.2)])
                  subst c9
                  clear c10
                  go_wp2
                  go_ret3
                  have h_ := HRR2.out
                  rw [HE.out, HQ.out] at h_
                  subst h_
                  exact ⟨(by first | rfl | (rw [IntWalk.wrap64_in _ (by have := HZ.out; have := HL.out; omega)])), 0, rfl⟩
              · have e9 : (yz == 3) = false := beq_eq_false_iff_ne.2 c9
                have HQ := am (show impl_sd.upto is_ x n (sent - z) z = z from by rw [HST.out, if_neg (fun h_ => c9 h_.1)])
                clear c9
                go_wp2
                go_ret3
                have h_ := HRR2.out
                rw [HE.out, HQ.out] at h_
                subst h_
                exact ⟨(by first | rfl | (rw [IntWalk.wrap64_in _ (by have := HZ.out; have := HL.out; omega)])), 0, rfl⟩
            · have q8 : decide ((z : Int) < (sent : Int)) = false := decide_eq_false (by omega)
              have q8n : decide (z < sent) = false := decide_eq_false c8
              have HQ := am (show impl_sd.upto is_ x n (sent - z) z = z from by rw [show sent - z = 0 by omega]; rfl)
              clear c8
              go_wp2
              go_ret3
              have h_ := HRR2.out
              rw [HE.out, HQ.out] at h_
              subst h_
              exact ⟨(by first | rfl | (rw [IntWalk.wrap64_in _ (by have := HZ.out; have := HL.out; omega)])), 0, rfl⟩
        · rw [if_neg c3] at hf
          have e3 : (y == 3) = false := beq_eq_false_iff_ne.2 c3
          clear c3
          have HF2 := Aside0.mk hf
          clear hf
          go_wp2
          go_roundg k1
          case measure => have := HI.out; omega
          case rel => exact ⟨x + 1, (by first | (rw [IntWalk.wrap64_in ((x : Int) + 1) (by have := HL.out; have := HI.out; omega), show ((x : Int) + 1) = ((x + 1 : Nat) : Int) by omega]; done) | (rw [show ((x : Int) + 1) = ((x + 1 : Nat) : Int) by omega]; done)), ⟨by have := HI.out; omega⟩, rfl, HF2⟩

def impl_sd.acked (is : List Int) : Bool := is.all (fun x => x == 2)
set_option maxHeartbeats 8000000 in
set_option maxRecDepth 100000 in
theorem impl_sd.allAcked_calls (base g : Nat) (v : impl_sd.V) (vd vi : Value) (w : World) (h : impl_sd.St w base g v vd vi) (hl : v.is.length ≤ 65536) :
    Calls Try.prog 21 #[.pointer (some ⟨g, 0, none⟩)] w fun e w' => e = .returned (.bool (impl_sd.acked v.is)) ∧ ∃ m, w' = w.drewN m := by
  obtain ⟨st, credit, data_, is_, sent, finish, fin⟩ := v
  dsimp only at hl ⊢
  obtain ⟨Ad, cd, rfl⟩ := Kd.R_slice h.d
  obtain ⟨Ai, ci, rfl⟩ := Kd.R_slice h.i
  dsimp only at h
  have HS := Aside0.mk h
  obtain ⟨y1_0, f1_0, y1_1, f1_1, y1_2, f1_2, y1_3, f1_3, y1_4, f1_4, y1_5, f1_5, y1_6, f1_6⟩ := impl_sd.c7 h.s
  dsimp only at y1_0 y1_1 y1_2 y1_3 y1_4 y1_5 y1_6
  have HL := Aside0.mk hl
  clear h hl
  obtain ⟨R, hR⟩ : ∃ R, R = impl_sd.acked is_ := ⟨_, rfl⟩
  rw [← hR]
  have HRR := Aside0.mk hR
  clear hR
  go_enter Try.func21, Try.ntmps21
  go_upto_block 0 with (fail)
  go_wp2
  go_loopg [10] is_.length (fun kq v10 wr => ∃ x : Nat, v10 = .int .i64 (x : Int) ∧ Aside0 (x + kq = is_.length) ∧ wr = w ∧ Aside0 (R = impl_sd.acked (is_.drop x)))
  case atStart => exact ⟨0, rfl, ⟨Nat.zero_add _⟩, rfl, HRR⟩
  case round =>
    obtain ⟨x, rfl, HI, hw_, HF⟩ := hrel
    have hw2_ := hw_.symm
    clear hw_
    subst hw2_
    clear HRR
    by_cases c7 : x < is_.length
    · have q7 : decide ((x : Int) < (is_.length : Int)) = true := decide_eq_true (by omega)
      have q7n : decide (x < is_.length) = true := decide_eq_true c7
      cases gk with
      | zero => exact absurd HI.out (by omega)
      | succ k1 =>
        obtain ⟨ad, ea, hxc⟩ := impl_sd.rdI HS.out.i x c7
        subst ea
        have p0 : (0 : Int) ≤ (x : Int) := by omega
        have p1 : (x : Int) < (is_.length : Int) := by omega
        have hf := HF.out
        rw [List.drop_eq_getElem_cons c7] at hf
        obtain ⟨y, hy⟩ : ∃ y : Int, y = is_.getD x 0 := ⟨_, rfl⟩
        rw [← hy] at hxc
        have hg : is_[x] = y := by rw [hy, List.getD_eq_getElem?_getD, List.getElem?_eq_getElem c7]; rfl
        rw [hg] at hf
        clear hy hg c7
        by_cases c3 : y = 2
        · have e3 : (y != 2) = false := by rw [c3]; rfl
          have HF2 := am (show R = impl_sd.acked (is_.drop (x + 1)) from by rw [hf, c3]; rfl)
          clear hf HF c3
          go_wp2
          go_roundg k1
          case measure => have := HI.out; omega
          case rel => exact ⟨x + 1, (by first | (rw [IntWalk.wrap64_in ((x : Int) + 1) (by have := HL.out; have := HI.out; omega), show ((x : Int) + 1) = ((x + 1 : Nat) : Int) by omega]; done) | (rw [show ((x : Int) + 1) = ((x + 1 : Nat) : Int) by omega]; done)), ⟨by have := HI.out; omega⟩, rfl, HF2⟩
        · have e3 : (y != 2) = true := bne_iff_ne.2 c3
          have eR : R = false := by rw [hf]; simp [impl_sd.acked, c3]
          subst eR
          clear hf HF c3
          go_wp2
          go_ret
          exact ⟨rfl, 0, rfl⟩
    · have q7 : decide ((x : Int) < (is_.length : Int)) = false := decide_eq_false (by omega)
      have q7n : decide (x < is_.length) = false := decide_eq_false c7
      have eR : R = true := by rw [HF.out, List.drop_eq_nil_of_le (by omega)]; rfl
      subst eR
      clear HF c7
      go_wp2
      go_ret
      exact ⟨rfl, 0, rfl⟩

/-! What pull, heard and the run come to (their walks are still to be written). -/
def impl_sd.away (is : List Int) (off : Nat) : Nat → List Int
  | 0 => is
  | d + 1 => (impl_sd.away is off d).set (off + d) 1
def impl_sd.pull (v : impl_sd.V) (n : Int) : S33 × impl_sd.V :=
  if n < 1 ∨ 1500 < n then (⟨1, 0, 0, [], false, false, false⟩, v)
  else if (impl_sd.next v n).2.2 = false then (⟨0, 0, 0, [], false, false, decide (v.st ≤ 2) && decide (v.sent < v.data.length)⟩, v)
  else
    let off := (impl_sd.next v n).1.toNat
    let sz := (impl_sd.next v n).2.1.toNat
    let v1 := { v with is := impl_sd.away v.is off sz, sent := max v.sent (off + sz) }
    if (v.finish && (off + sz == v.data.length) && (v.fin != 2)) = true then (⟨0, 0, (off : Int), (v.data.drop off).take sz, true, true, false⟩, { v1 with fin := 1, st := 2 })
    else if v.st = 0 then (⟨0, 0, (off : Int), (v.data.drop off).take sz, true, false, false⟩, { v1 with st := 1 })
    else (⟨0, 0, (off : Int), (v.data.drop off).take sz, true, false, false⟩, v1)
def impl_sd.turn (acked : Bool) (x : Int) : Int := if acked = true then 2 else if x = 2 then x else 3
def impl_sd.told (acked : Bool) (is : List Int) (off : Nat) : Nat → List Int
  | 0 => is
  | d + 1 => (impl_sd.told acked is off d).set (off + d) (impl_sd.turn acked ((impl_sd.told acked is off d).getD (off + d) 0))
def impl_sd.heard (v : impl_sd.V) (off n : Int) (fin acked : Bool) : Int × impl_sd.V :=
  if off < 0 ∨ n < 0 ∨ (v.sent : Int) < off ∨ (v.sent : Int) - off < n then (1, v)
  else if fin = true ∧ (v.fin = 0 ∨ off + n ≠ (v.data.length : Int)) then (1, v)
  else if 2 < v.st then (0, v)
  else
    let v1 := { v with is := impl_sd.told acked v.is off.toNat n.toNat, fin := if fin = true then impl_sd.turn acked v.fin else v.fin }
    if v1.fin = 2 ∧ impl_sd.acked v1.is = true then (0, { v1 with st := 3 }) else (0, v1)
def impl_sd.step (v : impl_sd.V) (o : S25) : Option (S33 × impl_sd.V) :=
  let tell := fun (p : Int × impl_sd.V) => some ((⟨p.1, p.2.st, 0, [], false, false, false⟩ : S33), p.2)
  if o.f0 = 1 then (if o.f3.length ≤ 1000000 then tell (impl_sd.write v o.f3) else none)
  else if o.f0 = 2 then tell (impl_sd.finished v)
  else if o.f0 = 3 then tell (if o.f2 < 0 then (1, v) else (0, { v with credit := max v.credit o.f2 }))
  else if o.f0 = 4 then some ({ (impl_sd.pull v o.f2).1 with f1 := (impl_sd.pull v o.f2).2.st }, (impl_sd.pull v o.f2).2)
  else if o.f0 = 5 ∨ o.f0 = 6 then tell (impl_sd.heard v o.f1 o.f2 o.f4 (o.f0 == 5))
  else none
def impl_sd.run : List (S25) → impl_sd.V → List (S33) → Option (List (S33))
  | [], _, acc => some acc
  | o :: os, v, acc => (impl_sd.step v o).bind fun p => impl_sd.run os p.2 (acc ++ [p.1])
set_option maxHeartbeats 8000000 in
set_option maxRecDepth 100000 in
theorem impl_sd.set_calls (p : Nat) (ac : Bool) (ad : Addr) (x : Int) (w : World) (hp : w.heap[p]? = some (.cells #[.bool ac] 4 (0, 0))) (hx : w.cell? ad = some (.int .u8 x)) (hf : w.frozen? ad = false) :
    Calls Try.prog 20 #[.pointer (some ad), .pointer (some ⟨p, 0, none⟩)] w fun e w' => e = .returned (.tuple #[]) ∧ ((w' = w ∧ impl_sd.turn ac x = x) ∨ w' = w.setCell ad (.int .u8 (impl_sd.turn ac x))) := by
  have y0 : w.cell? ⟨p, 0, none⟩ = some (.bool ac) := (blk_cell hp 0).trans rfl
  clear hp
  cases ac with
  | true =>
    go_enter Try.func20, Try.ntmps20
    go_wp2
    go_end0
    exact ⟨rfl, .inr rfl⟩
  | false =>
    by_cases c : x = 2
    · have q : (x != 2) = false := by rw [c]; rfl
      go_enter Try.func20, Try.ntmps20
      go_wp2
      go_end0
      exact ⟨rfl, .inl ⟨rfl, by unfold impl_sd.turn; rw [if_neg (by simp), if_pos c]⟩⟩
    · have q : (x != 2) = true := bne_iff_ne.2 c
      have e : impl_sd.turn false x = 3 := by unfold impl_sd.turn; rw [if_neg (by simp), if_neg c]
      rw [e]
      clear e c
      go_enter Try.func20, Try.ntmps20
      go_wp2
      go_end0
      exact ⟨rfl, .inr rfl⟩
theorem impl_sd.blkI {W : World} {base g : Nat} {v : impl_sd.V} {vd : Value} {A : Option Addr} {n c : Nat} (h : impl_sd.St W base g v vd (.slice A n c)) (hl : 0 < v.is.length) : ∃ gi, A = some ⟨gi, 0, none⟩ ∧ n = v.is.length ∧ base ≤ gi ∧ gi ≠ g ∧ gi < W.heap.size ∧ some gi ≠ vd.ownBlock := by
  obtain ⟨inner, ho⟩ := Kd.R_own h.i
  obtain ⟨_, ⟨_, e⟩ | ⟨gi, cap, cur, e, hb, hp, _⟩⟩ := ho
  · omega
  · injection e with e1 e2 e3
    subst e1
    obtain ⟨h1, h2⟩ := h.i.1 gi rfl
    exact ⟨gi, rfl, e2, hb, h1, blk_lt hp, h2⟩
theorem impl_sd.St.setI {W : World} {base g gi n c : Nat} {v : impl_sd.V} {vd : Value} (h : impl_sd.St W base g v vd (.slice (some ⟨gi, 0, none⟩) n c)) (i : Nat) (x : Int) : impl_sd.St (W.setCell ⟨gi, i, none⟩ (.int .u8 x)) base g { v with is := v.is.set i x } vd (.slice (some ⟨gi, 0, none⟩) n c) := by
  have h1 := (h.i.1 gi rfl)
  refine ⟨blk_far h.s (fun e => h1.1 e.symm) _, Kd.R_far h.d (fun k hk e => hk.2 (by rw [e]; rfl)) _, ?_, h.b⟩
  have := Kd.R_putn h.i (i : Int) x
  rwa [Int.toNat_natCast] at this
theorem impl_sd.Kp.setI {w W : World} {base g gi n c n2 c2 : Nat} {vd vd' : Value} {A : Option Addr} (h : impl_sd.Kp w W base g vd (.slice A n2 c2) vd' (.slice (some ⟨gi, 0, none⟩) n c)) (hb : base ≤ gi) (i : Nat) (u : Value) : impl_sd.Kp w (W.setCell ⟨gi, i, none⟩ u) base g vd (.slice A n2 c2) vd' (.slice (some ⟨gi, 0, none⟩) n c) := by
  refine ⟨by simpa [World.setCell] using h.sz, fun k hk h1 h2 h3 => (Below.heap_setCell W ⟨gi, i, none⟩ u k (fun e => ?_)).trans (h.kb k hk h1 h2 h3), h.bl.setCell hb u, h.nd, h.ni⟩
  subst e
  rcases h.ni with e | ⟨b, e, hle⟩
  · exact h3 e
  · injection e with e
    subst e
    exact Nat.lt_irrefl _ (Nat.lt_of_lt_of_le hk hle)
theorem impl_sd.told_len (ac : Bool) (is : List Int) (off : Nat) : ∀ d, (impl_sd.told ac is off d).length = is.length
  | 0 => rfl
  | d + 1 => by simp only [impl_sd.told, List.length_set]; exact impl_sd.told_len ac is off d
theorem impl_sd.setStep {w w8 W : World} {base g gi n c o x y p : Nat} {ac : Bool} {st credit fin : Int} {sent : Nat} {finish : Bool} {data_ is_ : List Int} {vd : Value}
    (hy : y = o + x) (h : impl_sd.St W base g ⟨st, credit, data_, impl_sd.told ac is_ o x, sent, finish, fin⟩ vd (.slice (some ⟨gi, 0, none⟩) n c)) (k : impl_sd.Kp w W base g vd (.slice (some ⟨gi, 0, none⟩) n c) vd (.slice (some ⟨gi, 0, none⟩) n c)) (hp : W.heap[p]? = some (.cells #[.bool ac] 4 (0, 0))) (hg : base ≤ gi ∧ p ≠ gi)
    (hw : (w8 = W ∧ impl_sd.turn ac ((impl_sd.told ac is_ o x).getD y 0) = (impl_sd.told ac is_ o x).getD y 0) ∨ w8 = W.setCell ⟨gi, y, none⟩ (.int .u8 (impl_sd.turn ac ((impl_sd.told ac is_ o x).getD y 0)))) :
    impl_sd.St w8 base g ⟨st, credit, data_, impl_sd.told ac is_ o (x + 1), sent, finish, fin⟩ vd (.slice (some ⟨gi, 0, none⟩) n c) ∧ impl_sd.Kp w w8 base g vd (.slice (some ⟨gi, 0, none⟩) n c) vd (.slice (some ⟨gi, 0, none⟩) n c) ∧ w8.heap[p]? = some (.cells #[.bool ac] 4 (0, 0)) := by
  subst hy
  rcases hw with ⟨rfl, e⟩ | rfl
  · refine ⟨?_, k, hp⟩
    simp only [impl_sd.told]
    rw [e]
    have e2 : (impl_sd.told ac is_ o x).set (o + x) ((impl_sd.told ac is_ o x).getD (o + x) 0) = impl_sd.told ac is_ o x := by
      apply List.ext_getElem?
      intro j
      rw [List.getElem?_set]
      by_cases ej : o + x = j
      · subst ej
        rw [if_pos rfl]
        by_cases hj : o + x < (impl_sd.told ac is_ o x).length
        · rw [if_pos hj, List.getD_eq_getElem?_getD, List.getElem?_eq_getElem hj]; rfl
        · rw [if_neg hj, List.getElem?_eq_none (by omega)]
      · rw [if_neg ej]
    rw [e2]
    exact h
  · refine ⟨impl_sd.St.setI h (o + x) _, impl_sd.Kp.setI k hg.1 _ _, blk_far hp hg.2 _⟩
theorem impl_sd.setFin {w w8 W : World} {base g : Nat} {ac : Bool} {st credit fin : Int} {sent : Nat} {finish : Bool} {data_ is_ : List Int} {vd vi : Value}
    (h : impl_sd.St W base g ⟨st, credit, data_, is_, sent, finish, fin⟩ vd vi) (k : impl_sd.Kp w W base g vd vi vd vi)
    (hw : (w8 = W ∧ impl_sd.turn ac fin = fin) ∨ w8 = W.setCell ⟨g, 6, none⟩ (.int .u8 (impl_sd.turn ac fin))) :
    impl_sd.St w8 base g ⟨st, credit, data_, is_, sent, finish, impl_sd.turn ac fin⟩ vd vi ∧ impl_sd.Kp w w8 base g vd vi vd vi := by
  rcases hw with ⟨rfl, e⟩ | rfl
  · rw [e]; exact ⟨h, k⟩
  · exact ⟨impl_sd.St.set h 6 _ rfl rfl rfl, impl_sd.Kp.set k h.b 6 _⟩
set_option maxHeartbeats 8000000 in
set_option maxRecDepth 100000 in
theorem impl_sd.heard_calls (base g : Nat) (v : impl_sd.V) (vd vi : Value) (off n : Int) (fn ac : Bool) (w : World) (h : impl_sd.St w base g v vd vi) (hs : v.sent ≤ v.is.length) (hl : v.is.length ≤ 65536) (hd : v.data.length ≤ 65536) :
    Calls Try.prog 12 #[.pointer (some ⟨g, 0, none⟩), .int .i64 off, .int .i64 n, .bool fn, .bool ac] w fun e w' => e = .returned (.int .i64 (impl_sd.heard v off n fn ac).1) ∧ impl_sd.St w' base g (impl_sd.heard v off n fn ac).2 vd vi ∧ impl_sd.Kp w w' base g vd vi vd vi := by
  obtain ⟨st, credit, data_, is_, sent, finish, fin⟩ := v
  dsimp only at hs hl hd
  obtain ⟨Ad, cd, rfl⟩ := Kd.R_slice h.d
  obtain ⟨Ai, ci, rfl⟩ := Kd.R_slice h.i
  dsimp only at h
  have HS := Aside0.mk h
  have HGB := Aside0.mk h.b
  have HL := am (show sent ≤ is_.length ∧ is_.length ≤ 65536 ∧ data_.length ≤ 65536 from ⟨hs, hl, hd⟩)
  clear h hs hl hd
  have HK := am (impl_sd.Kp.refl w base g (.slice Ad data_.length cd) (.slice Ai is_.length ci))
  have hmf : ∀ (fn : Fn) (first cap : Array Value) (w : World), (Instr.makeFunc fn first cap).run Try.prog w = .ok (.func fn first cap) w := fun _ _ _ _ => rfl
  obtain ⟨R, hR⟩ : ∃ R, R = impl_sd.heard ⟨st, credit, data_, is_, sent, finish, fin⟩ off n fn ac := ⟨_, rfl⟩
  rw [← hR]
  unfold impl_sd.heard at hR
  dsimp only at hR
  by_cases c1 : off < 0 ∨ n < 0 ∨ (sent : Int) < off ∨ (sent : Int) - off < n
  · rw [if_pos c1] at hR
    subst hR
    by_cases d0 : off < 0
    · have q0 : decide (off < 0) = true := decide_eq_true d0
      clear c1 d0
      go_enter Try.func12, Try.ntmps12
      go_wp2_with (first | ((with_reducible refine gate_dst (N := 9) rfl ?_); refine box_event ?hg (N := 9) ?hd (cs := #[.bool ac]) (t := 4) ?hr ?_; (case hd => rfl); (case hg => rfl); (case hr => first | (go_simp; done) | (go_simp; rfl)); intro g9 hg w1 hbox hb; have s_ := am (impl_sd.St.below HS.out hb); have k_ := am (impl_sd.Kp.below HK.out (Nat.le_of_lt (Nat.lt_of_le_of_lt HGB.out (blk_lt HS.out.s))) hb); have HGN := am (show g9 ≠ g from by have := blk_lt HS.out.s; omega); have HGI := am (show ∀ gi, some gi = (Value.slice Ai is_.length ci).ownBlock → g9 ≠ gi from fun gi e => by have := Kd.R_lt HS.out.i gi e.symm; omega); clear HS HK; have HS := s_; have HK := k_; clear s_ k_; have BX := Aside0.mk hbox; clear hbox hb hg; obtain ⟨y0, f0, y1, f1, y2, f2, y3, f3, y4, f4, y5, f5, y6, f6⟩ := impl_sd.c7 HS.out.s; dsimp only at y0 y1 y2 y3 y4 y5 y6))
      go_ret
      exact ⟨rfl, (by first | exact HS.out | exact HS.out.drew | exact HS.out.drewN _ | ((with_reducible repeat (first | exact HS.out | apply impl_sd.St.drewN | apply impl_sd.St.drew | apply impl_sd.St.alloc)); done)), (by (with_reducible repeat (first | exact HK.out | apply impl_sd.Kp.drewN | apply impl_sd.Kp.drew)); first | done | exact HK.out)⟩
    · have q0 : decide (off < 0) = false := decide_eq_false d0
      by_cases d1 : n < 0
      · have q1 : decide (n < 0) = true := decide_eq_true d1
        clear c1 d0 d1
        go_enter Try.func12, Try.ntmps12
        go_wp2_with (first | ((with_reducible refine gate_dst (N := 9) rfl ?_); refine box_event ?hg (N := 9) ?hd (cs := #[.bool ac]) (t := 4) ?hr ?_; (case hd => rfl); (case hg => rfl); (case hr => first | (go_simp; done) | (go_simp; rfl)); intro g9 hg w1 hbox hb; have s_ := am (impl_sd.St.below HS.out hb); have k_ := am (impl_sd.Kp.below HK.out (Nat.le_of_lt (Nat.lt_of_le_of_lt HGB.out (blk_lt HS.out.s))) hb); have HGN := am (show g9 ≠ g from by have := blk_lt HS.out.s; omega); have HGI := am (show ∀ gi, some gi = (Value.slice Ai is_.length ci).ownBlock → g9 ≠ gi from fun gi e => by have := Kd.R_lt HS.out.i gi e.symm; omega); clear HS HK; have HS := s_; have HK := k_; clear s_ k_; have BX := Aside0.mk hbox; clear hbox hb hg; obtain ⟨y0, f0, y1, f1, y2, f2, y3, f3, y4, f4, y5, f5, y6, f6⟩ := impl_sd.c7 HS.out.s; dsimp only at y0 y1 y2 y3 y4 y5 y6))
        go_ret
        exact ⟨rfl, (by first | exact HS.out | exact HS.out.drew | exact HS.out.drewN _ | ((with_reducible repeat (first | exact HS.out | apply impl_sd.St.drewN | apply impl_sd.St.drew | apply impl_sd.St.alloc)); done)), (by (with_reducible repeat (first | exact HK.out | apply impl_sd.Kp.drewN | apply impl_sd.Kp.drew)); first | done | exact HK.out)⟩
      · have q1 : decide (n < 0) = false := decide_eq_false d1
        by_cases d2 : (sent : Int) < off
        · have q2 : decide ((sent : Int) < off) = true := decide_eq_true d2
          clear c1 d0 d1 d2
          go_enter Try.func12, Try.ntmps12
          go_wp2_with (first | ((with_reducible refine gate_dst (N := 9) rfl ?_); refine box_event ?hg (N := 9) ?hd (cs := #[.bool ac]) (t := 4) ?hr ?_; (case hd => rfl); (case hg => rfl); (case hr => first | (go_simp; done) | (go_simp; rfl)); intro g9 hg w1 hbox hb; have s_ := am (impl_sd.St.below HS.out hb); have k_ := am (impl_sd.Kp.below HK.out (Nat.le_of_lt (Nat.lt_of_le_of_lt HGB.out (blk_lt HS.out.s))) hb); have HGN := am (show g9 ≠ g from by have := blk_lt HS.out.s; omega); have HGI := am (show ∀ gi, some gi = (Value.slice Ai is_.length ci).ownBlock → g9 ≠ gi from fun gi e => by have := Kd.R_lt HS.out.i gi e.symm; omega); clear HS HK; have HS := s_; have HK := k_; clear s_ k_; have BX := Aside0.mk hbox; clear hbox hb hg; obtain ⟨y0, f0, y1, f1, y2, f2, y3, f3, y4, f4, y5, f5, y6, f6⟩ := impl_sd.c7 HS.out.s; dsimp only at y0 y1 y2 y3 y4 y5 y6))
          go_ret
          exact ⟨rfl, (by first | exact HS.out | exact HS.out.drew | exact HS.out.drewN _ | ((with_reducible repeat (first | exact HS.out | apply impl_sd.St.drewN | apply impl_sd.St.drew | apply impl_sd.St.alloc)); done)), (by (with_reducible repeat (first | exact HK.out | apply impl_sd.Kp.drewN | apply impl_sd.Kp.drew)); first | done | exact HK.out)⟩
        · have q2 : decide ((sent : Int) < off) = false := decide_eq_false d2
          by_cases d3 : (sent : Int) - off < n
          · have q3 : decide ((sent : Int) - off < n) = true := decide_eq_true d3
            have ew : IntKind.i64.wrap ((sent : Int) - off) = (sent : Int) - off := IntWalk.i64_in _ (by have := HL.out; omega)
            clear c1 d0 d1 d2 d3
            go_enter Try.func12, Try.ntmps12
            go_wp2_with (first | ((with_reducible refine gate_dst (N := 9) rfl ?_); refine box_event ?hg (N := 9) ?hd (cs := #[.bool ac]) (t := 4) ?hr ?_; (case hd => rfl); (case hg => rfl); (case hr => first | (go_simp; done) | (go_simp; rfl)); intro g9 hg w1 hbox hb; have s_ := am (impl_sd.St.below HS.out hb); have k_ := am (impl_sd.Kp.below HK.out (Nat.le_of_lt (Nat.lt_of_le_of_lt HGB.out (blk_lt HS.out.s))) hb); have HGN := am (show g9 ≠ g from by have := blk_lt HS.out.s; omega); have HGI := am (show ∀ gi, some gi = (Value.slice Ai is_.length ci).ownBlock → g9 ≠ gi from fun gi e => by have := Kd.R_lt HS.out.i gi e.symm; omega); clear HS HK; have HS := s_; have HK := k_; clear s_ k_; have BX := Aside0.mk hbox; clear hbox hb hg; obtain ⟨y0, f0, y1, f1, y2, f2, y3, f3, y4, f4, y5, f5, y6, f6⟩ := impl_sd.c7 HS.out.s; dsimp only at y0 y1 y2 y3 y4 y5 y6))
            go_ret
            exact ⟨rfl, (by first | exact HS.out | exact HS.out.drew | exact HS.out.drewN _ | ((with_reducible repeat (first | exact HS.out | apply impl_sd.St.drewN | apply impl_sd.St.drew | apply impl_sd.St.alloc)); done)), (by (with_reducible repeat (first | exact HK.out | apply impl_sd.Kp.drewN | apply impl_sd.Kp.drew)); first | done | exact HK.out)⟩
          · exact absurd c1 (by omega)
  · rw [if_neg c1] at hR
    obtain ⟨o, rfl⟩ : ∃ o : Nat, off = (o : Int) := ⟨off.toNat, by omega⟩
    obtain ⟨nn, rfl⟩ : ∃ m : Nat, n = (m : Int) := ⟨n.toNat, by omega⟩
    simp only [Int.toNat_natCast] at hR
    have HON := am (show o + nn ≤ sent from by omega)
    have q0 : decide ((o : Int) < 0) = false := decide_eq_false (by omega)
    have q1 : decide ((nn : Int) < 0) = false := decide_eq_false (by omega)
    have q2 : decide ((sent : Int) < (o : Int)) = false := decide_eq_false (by omega)
    have q3 : decide ((sent : Int) - (o : Int) < (nn : Int)) = false := decide_eq_false (by omega)
    have q2n : decide (sent < o) = false := decide_eq_false (by omega)
    have ew : IntKind.i64.wrap ((sent : Int) - (o : Int)) = (sent : Int) - (o : Int) := IntWalk.i64_in _ (by have := HL.out; omega)
    have ew2 : IntKind.i64.wrap ((o : Int) + (nn : Int)) = (o : Int) + (nn : Int) := IntWalk.i64_in _ (by have := HL.out; omega)
    clear c1
    by_cases c2 : fn = true ∧ (fin = 0 ∨ (o : Int) + (nn : Int) ≠ (data_.length : Int))
    · rw [if_pos c2] at hR
      subst hR
      obtain ⟨rfl, c3⟩ := c2
      by_cases d0 : fin = 0
      · have p0 : (fin == 0) = true := beq_iff_eq.2 d0
        clear c3 d0
        go_enter Try.func12, Try.ntmps12
        go_wp2_with (first | ((with_reducible refine gate_dst (N := 9) rfl ?_); refine box_event ?hg (N := 9) ?hd (cs := #[.bool ac]) (t := 4) ?hr ?_; (case hd => rfl); (case hg => rfl); (case hr => first | (go_simp; done) | (go_simp; rfl)); intro g9 hg w1 hbox hb; have s_ := am (impl_sd.St.below HS.out hb); have k_ := am (impl_sd.Kp.below HK.out (Nat.le_of_lt (Nat.lt_of_le_of_lt HGB.out (blk_lt HS.out.s))) hb); have HGN := am (show g9 ≠ g from by have := blk_lt HS.out.s; omega); have HGI := am (show ∀ gi, some gi = (Value.slice Ai is_.length ci).ownBlock → g9 ≠ gi from fun gi e => by have := Kd.R_lt HS.out.i gi e.symm; omega); clear HS HK; have HS := s_; have HK := k_; clear s_ k_; have BX := Aside0.mk hbox; clear hbox hb hg; obtain ⟨y0, f0, y1, f1, y2, f2, y3, f3, y4, f4, y5, f5, y6, f6⟩ := impl_sd.c7 HS.out.s; dsimp only at y0 y1 y2 y3 y4 y5 y6))
        go_ret
        exact ⟨rfl, (by first | exact HS.out | exact HS.out.drew | exact HS.out.drewN _ | ((with_reducible repeat (first | exact HS.out | apply impl_sd.St.drewN | apply impl_sd.St.drew | apply impl_sd.St.alloc)); done)), (by (with_reducible repeat (first | exact HK.out | apply impl_sd.Kp.drewN | apply impl_sd.Kp.drew)); first | done | exact HK.out)⟩
      · have p0 : (fin == 0) = false := beq_eq_false_iff_ne.2 d0
        have p1 : ((o : Int) + (nn : Int) != (data_.length : Int)) = true := bne_iff_ne.2 (by omega)
        clear c3 d0
        go_enter Try.func12, Try.ntmps12
        go_wp2_with (first | ((with_reducible refine gate_dst (N := 9) rfl ?_); refine box_event ?hg (N := 9) ?hd (cs := #[.bool ac]) (t := 4) ?hr ?_; (case hd => rfl); (case hg => rfl); (case hr => first | (go_simp; done) | (go_simp; rfl)); intro g9 hg w1 hbox hb; have s_ := am (impl_sd.St.below HS.out hb); have k_ := am (impl_sd.Kp.below HK.out (Nat.le_of_lt (Nat.lt_of_le_of_lt HGB.out (blk_lt HS.out.s))) hb); have HGN := am (show g9 ≠ g from by have := blk_lt HS.out.s; omega); have HGI := am (show ∀ gi, some gi = (Value.slice Ai is_.length ci).ownBlock → g9 ≠ gi from fun gi e => by have := Kd.R_lt HS.out.i gi e.symm; omega); clear HS HK; have HS := s_; have HK := k_; clear s_ k_; have BX := Aside0.mk hbox; clear hbox hb hg; obtain ⟨y0, f0, y1, f1, y2, f2, y3, f3, y4, f4, y5, f5, y6, f6⟩ := impl_sd.c7 HS.out.s; dsimp only at y0 y1 y2 y3 y4 y5 y6))
        go_ret
        exact ⟨rfl, (by first | exact HS.out | exact HS.out.drew | exact HS.out.drewN _ | ((with_reducible repeat (first | exact HS.out | apply impl_sd.St.drewN | apply impl_sd.St.drew | apply impl_sd.St.alloc)); done)), (by (with_reducible repeat (first | exact HK.out | apply impl_sd.Kp.drewN | apply impl_sd.Kp.drew)); first | done | exact HK.out)⟩
    · rw [if_neg c2] at hR
      have HRR := Aside0.mk hR
      clear hR
      have ht_ : fn = true → (fin == 0) = false ∧ ((o : Int) + (nn : Int) != (data_.length : Int)) = false := fun h_ => ⟨beq_eq_false_iff_ne.2 (fun e => c2 ⟨h_, .inl e⟩), by rw [bne_eq_false_iff_eq]; exact Decidable.byContradiction (fun e => c2 ⟨h_, .inr e⟩)⟩
      have HT := Aside0.mk ht_
      clear ht_ c2
      by_cases c5 : 2 < st
      · have hR := HRR.out
        rw [if_pos c5] at hR
        subst hR
        have q5 : decide (2 < st) = true := decide_eq_true c5
        clear HRR c5
        cases fn with
        | true =>
          obtain ⟨p0, p1⟩ := HT.out rfl
          go_enter Try.func12, Try.ntmps12
          go_wp2_with (first | ((with_reducible refine gate_dst (N := 9) rfl ?_); refine box_event ?hg (N := 9) ?hd (cs := #[.bool ac]) (t := 4) ?hr ?_; (case hd => rfl); (case hg => rfl); (case hr => first | (go_simp; done) | (go_simp; rfl)); intro g9 hg w1 hbox hb; have s_ := am (impl_sd.St.below HS.out hb); have k_ := am (impl_sd.Kp.below HK.out (Nat.le_of_lt (Nat.lt_of_le_of_lt HGB.out (blk_lt HS.out.s))) hb); have HGN := am (show g9 ≠ g from by have := blk_lt HS.out.s; omega); have HGI := am (show ∀ gi, some gi = (Value.slice Ai is_.length ci).ownBlock → g9 ≠ gi from fun gi e => by have := Kd.R_lt HS.out.i gi e.symm; omega); clear HS HK; have HS := s_; have HK := k_; clear s_ k_; have BX := Aside0.mk hbox; clear hbox hb hg; obtain ⟨y0, f0, y1, f1, y2, f2, y3, f3, y4, f4, y5, f5, y6, f6⟩ := impl_sd.c7 HS.out.s; dsimp only at y0 y1 y2 y3 y4 y5 y6))
          go_ret
          exact ⟨rfl, (by first | exact HS.out | exact HS.out.drew | exact HS.out.drewN _ | ((with_reducible repeat (first | exact HS.out | apply impl_sd.St.drewN | apply impl_sd.St.drew | apply impl_sd.St.alloc)); done)), (by (with_reducible repeat (first | exact HK.out | apply impl_sd.Kp.drewN | apply impl_sd.Kp.drew)); first | done | exact HK.out)⟩
        | false =>
          go_enter Try.func12, Try.ntmps12
          go_wp2_with (first | ((with_reducible refine gate_dst (N := 9) rfl ?_); refine box_event ?hg (N := 9) ?hd (cs := #[.bool ac]) (t := 4) ?hr ?_; (case hd => rfl); (case hg => rfl); (case hr => first | (go_simp; done) | (go_simp; rfl)); intro g9 hg w1 hbox hb; have s_ := am (impl_sd.St.below HS.out hb); have k_ := am (impl_sd.Kp.below HK.out (Nat.le_of_lt (Nat.lt_of_le_of_lt HGB.out (blk_lt HS.out.s))) hb); have HGN := am (show g9 ≠ g from by have := blk_lt HS.out.s; omega); have HGI := am (show ∀ gi, some gi = (Value.slice Ai is_.length ci).ownBlock → g9 ≠ gi from fun gi e => by have := Kd.R_lt HS.out.i gi e.symm; omega); clear HS HK; have HS := s_; have HK := k_; clear s_ k_; have BX := Aside0.mk hbox; clear hbox hb hg; obtain ⟨y0, f0, y1, f1, y2, f2, y3, f3, y4, f4, y5, f5, y6, f6⟩ := impl_sd.c7 HS.out.s; dsimp only at y0 y1 y2 y3 y4 y5 y6))
          go_ret
          exact ⟨rfl, (by first | exact HS.out | exact HS.out.drew | exact HS.out.drewN _ | ((with_reducible repeat (first | exact HS.out | apply impl_sd.St.drewN | apply impl_sd.St.drew | apply impl_sd.St.alloc)); done)), (by (with_reducible repeat (first | exact HK.out | apply impl_sd.Kp.drewN | apply impl_sd.Kp.drew)); first | done | exact HK.out)⟩
      · have hR := HRR.out
        rw [if_neg c5] at hR
        have q5 : decide (2 < st) = false := decide_eq_false c5
        have HR2 := Aside0.mk hR
        clear HRR c5 hR
        cases fn with
        | true =>
          obtain ⟨p0, p1⟩ := HT.out rfl
          go_enter Try.func12, Try.ntmps12
          go_upto_block 0 with (first | ((with_reducible refine gate_dst (N := 9) rfl ?_); refine box_event ?hg (N := 9) ?hd (cs := #[.bool ac]) (t := 4) ?hr ?_; (case hd => rfl); (case hg => rfl); (case hr => first | (go_simp; done) | (go_simp; rfl)); intro g9 hg w1 hbox hb; have s_ := am (impl_sd.St.below HS.out hb); have k_ := am (impl_sd.Kp.below HK.out (Nat.le_of_lt (Nat.lt_of_le_of_lt HGB.out (blk_lt HS.out.s))) hb); have HGN := am (show g9 ≠ g from by have := blk_lt HS.out.s; omega); have HGI := am (show ∀ gi, some gi = (Value.slice Ai is_.length ci).ownBlock → g9 ≠ gi from fun gi e => by have := Kd.R_lt HS.out.i gi e.symm; omega); clear HS HK; have HS := s_; have HK := k_; clear s_ k_; have BX := Aside0.mk hbox; clear hbox hb hg; obtain ⟨y0, f0, y1, f1, y2, f2, y3, f3, y4, f4, y5, f5, y6, f6⟩ := impl_sd.c7 HS.out.s; dsimp only at y0 y1 y2 y3 y4 y5 y6))
          go_wp2
          go_loopg [12] nn (fun kq v12 wr => ∃ x y : Nat, v12 = .int .i64 (y : Int) ∧ Aside0 (x + kq = nn ∧ y = o + x) ∧ Aside0 (impl_sd.St wr base g ⟨st, credit, data_, (impl_sd.told ac is_ o x), sent, finish, fin⟩ (.slice Ad data_.length cd) (.slice Ai is_.length ci)) ∧ Aside0 (impl_sd.Kp w wr base g (.slice Ad data_.length cd) (.slice Ai is_.length ci) (.slice Ad data_.length cd) (.slice Ai is_.length ci)) ∧ Aside0 (wr.heap[g9]? = some (.cells #[.bool ac] 4 (0, 0))))
          case atStart => exact ⟨0, o, rfl, ⟨Nat.zero_add _, rfl⟩, ⟨(by first | exact HS.out | exact HS.out.drew | exact HS.out.drewN _ | ((with_reducible repeat (first | exact HS.out | apply impl_sd.St.drewN | apply impl_sd.St.drew | apply impl_sd.St.alloc)); done))⟩, ⟨(by (with_reducible repeat (first | exact HK.out | apply impl_sd.Kp.drewN | apply impl_sd.Kp.drew)); first | done | exact HK.out)⟩, ⟨(by (with_reducible repeat (first | exact BX.out | refine blk_drewN ?_ _ | refine blk_drew ?_ | refine blk_alloc ?_ _)); done)⟩⟩
          case round =>
            clear HS HK BX y0 f0 y1 f1 y2 f2 y3 f3 y4 f4 y5 f5 y6 f6
            obtain ⟨x, y, rfl, HI, HS, HK, BX⟩ := hrel
            obtain ⟨y1_0, f1_0, y1_1, f1_1, y1_2, f1_2, y1_3, f1_3, y1_4, f1_4, y1_5, f1_5, y1_6, f1_6⟩ := impl_sd.c7 HS.out.s
            dsimp only at y1_0 y1_1 y1_2 y1_3 y1_4 y1_5 y1_6
            by_cases c7 : x < nn
            · have q7 : decide ((y : Int) < (o : Int) + (nn : Int)) = true := decide_eq_true (by have := HI.out; omega)
              cases gk with
              | zero => exact absurd HI.out.1 (by omega)
              | succ k1 =>
                have htl := impl_sd.told_len ac is_ o x
                have hxl : y < is_.length := by have := HL.out; have := HON.out; have := HI.out; omega
                obtain ⟨gi, rfl, hgn, hgb, hgg, hgl, hgd⟩ := impl_sd.blkI HS.out (by dsimp only; omega)
                have hcell := Kd.R_celln (0 : Int) HS.out.i (y : Int) (by omega) (by omega)
                rw [Int.toNat_natCast] at hcell
                obtain ⟨hc1, hc2⟩ := hcell
                have hrd : rdOf (0 : Int) (impl_sd.told ac is_ o x) (y : Int) = (impl_sd.told ac is_ o x).getD y 0 := by unfold rdOf; rw [Int.toNat_natCast]
                have HC1 := am (show wr.cell? ⟨gi, y, none⟩ = some (.int .u8 ((impl_sd.told ac is_ o x).getD y 0)) from by rw [← hrd]; exact hc1)
                have HC2 := Aside0.mk hc2
                have HGI2 := am (And.intro hgb (HGI.out gi rfl))
                clear hc1 hc2 hrd hgn hgb hgg hgl hgd htl
                have p0_ : (0 : Int) ≤ (y : Int) := by omega
                have p1_ : (y : Int) < (is_.length : Int) := by omega
                have p1n_ : y < is_.length := hxl
                have ep_ : (⟨gi, 0, none⟩ : Addr).add y = ⟨gi, y, none⟩ := add_plain _ _
                have ewx : IntKind.i64.wrap ((y : Int) + 1) = ((y + 1 : Nat) : Int) := by rw [IntWalk.i64_in _ (by have := HL.out; omega)]; omega
                go_wp2_with (first | (go_at_call 20; (try rw [ep_]); refine (impl_sd.set_calls g9 ac ⟨gi, y, none⟩ _ _ BX.out HC1.out HC2.out).mono ?_; rintro e w8 ⟨rfl, hw8⟩; have n1_ := am (show impl_sd.St w8 base g ⟨st, credit, data_, (impl_sd.told ac is_ o (x + 1)), sent, finish, fin⟩ (.slice Ad data_.length cd) (.slice (some ⟨gi, 0, none⟩) is_.length ci) ∧ impl_sd.Kp w w8 base g (.slice Ad data_.length cd) (.slice (some ⟨gi, 0, none⟩) is_.length ci) (.slice Ad data_.length cd) (.slice (some ⟨gi, 0, none⟩) is_.length ci) ∧ w8.heap[g9]? = some (.cells #[.bool ac] 4 (0, 0)) from impl_sd.setStep HI.out.2 HS.out HK.out BX.out HGI2.out hw8); clear HS HK BX hw8; have HS := Aside0.mk n1_.out.1; have HK := Aside0.mk n1_.out.2.1; have BX := Aside0.mk n1_.out.2.2; clear n1_))
                go_roundg k1
                case measure => have := HI.out; omega
                case rel => exact ⟨x + 1, y + 1, (by first | rfl | (rw [show ((y : Int) + 1) = ((y + 1 : Nat) : Int) by omega]; done) | (congr 1; omega)), ⟨by have := HI.out; omega, by have := HI.out; omega⟩, HS, HK, BX⟩
            · have q7 : decide ((y : Int) < (o : Int) + (nn : Int)) = false := decide_eq_false (by have := HI.out; omega)
              have ex : x = nn := by have := HI.out.1; omega
              subst ex
              clear HI c7
              go_upto_region 14 with (first | (go_at_call 20; refine (impl_sd.set_calls g9 ac ⟨g, 6, none⟩ fin _ BX.out y1_6 f1_6).mono ?_; rintro e w8 ⟨rfl, hw8⟩; have n1_ := am (show impl_sd.St w8 base g ⟨st, credit, data_, (impl_sd.told ac is_ o x), sent, finish, (impl_sd.turn ac fin)⟩ (.slice Ad data_.length cd) (.slice Ai is_.length ci) ∧ impl_sd.Kp w w8 base g (.slice Ad data_.length cd) (.slice Ai is_.length ci) (.slice Ad data_.length cd) (.slice Ai is_.length ci) from impl_sd.setFin HS.out HK.out hw8); clear HS HK BX hw8 y1_0 f1_0 y1_1 f1_1 y1_2 f1_2 y1_3 f1_3 y1_4 f1_4 y1_5 f1_5 y1_6 f1_6; have HS := Aside0.mk n1_.out.1; have HK := Aside0.mk n1_.out.2; clear n1_; obtain ⟨u0, v0, u1, v1, u2, v2, u3, v3, u4, v4, u5, v5, u6, v6⟩ := impl_sd.c7 HS.out.s; dsimp only at u0 u1 u2 u3 u4 u5 u6))
              obtain ⟨f1, hf1⟩ : ∃ y : Int, y = impl_sd.turn ac fin := ⟨_, rfl⟩
              rw [← hf1] at u6
              have HF1 := Aside0.mk hf1
              clear hf1
              obtain ⟨is2, hi2⟩ : ∃ y : List Int, y = impl_sd.told ac is_ o x := ⟨_, rfl⟩
              have HI2 := Aside0.mk hi2
              have hS_ := HS.out
              have hR2_ := HR2.out
              rw [← hi2] at hS_ hR2_
              simp only [reduceIte, ← HF1.out] at hS_ hR2_
              clear HS HR2
              have HS := Aside0.mk hS_
              have HR2 := Aside0.mk hR2_
              clear hS_ hR2_ hi2
              have HLI := am (show is2.length ≤ 65536 from by rw [HI2.out, impl_sd.told_len]; exact HL.out.2.1)
              by_cases c9 : f1 = 2
              · have q9 : (f1 == 2) = true := beq_iff_eq.2 c9
                have HC9 := Aside0.mk c9
                clear c9
                obtain ⟨bb, hbb⟩ : ∃ y : Bool, y = impl_sd.acked is2 := ⟨_, rfl⟩
                have HBB := Aside0.mk hbb
                have ack_ : ∀ W, impl_sd.St W base g ⟨st, credit, data_, is2, sent, finish, f1⟩ (.slice Ad data_.length cd) (.slice Ai is_.length ci) → Calls Try.prog 21 #[.pointer (some ⟨g, 0, none⟩)] W fun e w' => e = .returned (.bool bb) ∧ ∃ m, w' = W.drewN m := fun W hW => by rw [hbb]; exact impl_sd.allAcked_calls base g _ _ _ W hW HLI.out
                clear hbb
                cases bb with
                | true =>
                  have hR := HR2.out
                  rw [if_pos ⟨HC9.out, HBB.out.symm⟩] at hR
                  have ER := Aside0.mk hR
                  clear hR HR2
                  go_wp2_with (first | (go_at_call 21; refine (ack_ _ (by first | exact HS.out | exact HS.out.drew | exact HS.out.drewN _ | ((with_reducible repeat (first | exact HS.out | apply impl_sd.St.drewN | apply impl_sd.St.drew | apply impl_sd.St.alloc)); done))).mono ?_; rintro e w7_ ⟨rfl, md_, hmd_⟩; subst hmd_))
                  go_ret
                  rw [ER.out]
                  exact ⟨rfl, (by (with_reducible repeat (first | apply impl_sd.St.drewN | apply impl_sd.St.drew)); exact impl_sd.St.set (v := ⟨st, credit, data_, is2, sent, finish, f1⟩) (by first | exact HS.out | exact HS.out.drew | exact HS.out.drewN _ | ((with_reducible repeat (first | exact HS.out | apply impl_sd.St.drewN | apply impl_sd.St.drew | apply impl_sd.St.alloc)); done)) 0 _ rfl rfl rfl), (by (with_reducible repeat (first | exact HK.out | refine impl_sd.Kp.set ?_ HGB.out _ _ | apply impl_sd.Kp.drewN | apply impl_sd.Kp.drew)); first | done | exact HK.out)⟩
                | false =>
                  have hR := HR2.out
                  rw [if_neg (fun h_ => absurd (HBB.out.trans h_.2) (by simp))] at hR
                  have ER := Aside0.mk hR
                  clear hR HR2
                  go_wp2_with (first | (go_at_call 21; refine (ack_ _ (by first | exact HS.out | exact HS.out.drew | exact HS.out.drewN _ | ((with_reducible repeat (first | exact HS.out | apply impl_sd.St.drewN | apply impl_sd.St.drew | apply impl_sd.St.alloc)); done))).mono ?_; rintro e w7_ ⟨rfl, md_, hmd_⟩; subst hmd_))
                  go_ret
                  rw [ER.out]
                  exact ⟨rfl, (by (with_reducible repeat (first | apply impl_sd.St.drewN | apply impl_sd.St.drew)); exact HS.out), (by (with_reducible repeat (first | exact HK.out | apply impl_sd.Kp.drewN | apply impl_sd.Kp.drew)); first | done | exact HK.out)⟩
              · have q9 : (f1 == 2) = false := beq_eq_false_iff_ne.2 c9
                have hR := HR2.out
                rw [if_neg (fun h_ => c9 h_.1)] at hR
                have ER := Aside0.mk hR
                clear hR HR2 c9
                go_wp2
                go_ret
                rw [ER.out]
                exact ⟨rfl, (by (with_reducible repeat (first | apply impl_sd.St.drewN | apply impl_sd.St.drew)); exact HS.out), (by (with_reducible repeat (first | exact HK.out | apply impl_sd.Kp.drewN | apply impl_sd.Kp.drew)); first | done | exact HK.out)⟩
        | false =>
          go_enter Try.func12, Try.ntmps12
          go_upto_block 0 with (first | ((with_reducible refine gate_dst (N := 9) rfl ?_); refine box_event ?hg (N := 9) ?hd (cs := #[.bool ac]) (t := 4) ?hr ?_; (case hd => rfl); (case hg => rfl); (case hr => first | (go_simp; done) | (go_simp; rfl)); intro g9 hg w1 hbox hb; have s_ := am (impl_sd.St.below HS.out hb); have k_ := am (impl_sd.Kp.below HK.out (Nat.le_of_lt (Nat.lt_of_le_of_lt HGB.out (blk_lt HS.out.s))) hb); have HGN := am (show g9 ≠ g from by have := blk_lt HS.out.s; omega); have HGI := am (show ∀ gi, some gi = (Value.slice Ai is_.length ci).ownBlock → g9 ≠ gi from fun gi e => by have := Kd.R_lt HS.out.i gi e.symm; omega); clear HS HK; have HS := s_; have HK := k_; clear s_ k_; have BX := Aside0.mk hbox; clear hbox hb hg; obtain ⟨y0, f0, y1, f1, y2, f2, y3, f3, y4, f4, y5, f5, y6, f6⟩ := impl_sd.c7 HS.out.s; dsimp only at y0 y1 y2 y3 y4 y5 y6))
          go_wp2
          go_loopg [12] nn (fun kq v12 wr => ∃ x y : Nat, v12 = .int .i64 (y : Int) ∧ Aside0 (x + kq = nn ∧ y = o + x) ∧ Aside0 (impl_sd.St wr base g ⟨st, credit, data_, (impl_sd.told ac is_ o x), sent, finish, fin⟩ (.slice Ad data_.length cd) (.slice Ai is_.length ci)) ∧ Aside0 (impl_sd.Kp w wr base g (.slice Ad data_.length cd) (.slice Ai is_.length ci) (.slice Ad data_.length cd) (.slice Ai is_.length ci)) ∧ Aside0 (wr.heap[g9]? = some (.cells #[.bool ac] 4 (0, 0))))
          case atStart => exact ⟨0, o, rfl, ⟨Nat.zero_add _, rfl⟩, ⟨(by first | exact HS.out | exact HS.out.drew | exact HS.out.drewN _ | ((with_reducible repeat (first | exact HS.out | apply impl_sd.St.drewN | apply impl_sd.St.drew | apply impl_sd.St.alloc)); done))⟩, ⟨(by (with_reducible repeat (first | exact HK.out | apply impl_sd.Kp.drewN | apply impl_sd.Kp.drew)); first | done | exact HK.out)⟩, ⟨(by (with_reducible repeat (first | exact BX.out | refine blk_drewN ?_ _ | refine blk_drew ?_ | refine blk_alloc ?_ _)); done)⟩⟩
          case round =>
            clear HS HK BX y0 f0 y1 f1 y2 f2 y3 f3 y4 f4 y5 f5 y6 f6
            obtain ⟨x, y, rfl, HI, HS, HK, BX⟩ := hrel
            obtain ⟨y2_0, f2_0, y2_1, f2_1, y2_2, f2_2, y2_3, f2_3, y2_4, f2_4, y2_5, f2_5, y2_6, f2_6⟩ := impl_sd.c7 HS.out.s
            dsimp only at y2_0 y2_1 y2_2 y2_3 y2_4 y2_5 y2_6
            by_cases c7 : x < nn
            · have q7 : decide ((y : Int) < (o : Int) + (nn : Int)) = true := decide_eq_true (by have := HI.out; omega)
              cases gk with
              | zero => exact absurd HI.out.1 (by omega)
              | succ k1 =>
                have htl := impl_sd.told_len ac is_ o x
                have hxl : y < is_.length := by have := HL.out; have := HON.out; have := HI.out; omega
                obtain ⟨gi, rfl, hgn, hgb, hgg, hgl, hgd⟩ := impl_sd.blkI HS.out (by dsimp only; omega)
                have hcell := Kd.R_celln (0 : Int) HS.out.i (y : Int) (by omega) (by omega)
                rw [Int.toNat_natCast] at hcell
                obtain ⟨hc1, hc2⟩ := hcell
                have hrd : rdOf (0 : Int) (impl_sd.told ac is_ o x) (y : Int) = (impl_sd.told ac is_ o x).getD y 0 := by unfold rdOf; rw [Int.toNat_natCast]
                have HC1 := am (show wr.cell? ⟨gi, y, none⟩ = some (.int .u8 ((impl_sd.told ac is_ o x).getD y 0)) from by rw [← hrd]; exact hc1)
                have HC2 := Aside0.mk hc2
                have HGI2 := am (And.intro hgb (HGI.out gi rfl))
                clear hc1 hc2 hrd hgn hgb hgg hgl hgd htl
                have p0_ : (0 : Int) ≤ (y : Int) := by omega
                have p1_ : (y : Int) < (is_.length : Int) := by omega
                have p1n_ : y < is_.length := hxl
                have ep_ : (⟨gi, 0, none⟩ : Addr).add y = ⟨gi, y, none⟩ := add_plain _ _
                have ewx : IntKind.i64.wrap ((y : Int) + 1) = ((y + 1 : Nat) : Int) := by rw [IntWalk.i64_in _ (by have := HL.out; omega)]; omega
                go_wp2_with (first | (go_at_call 20; (try rw [ep_]); refine (impl_sd.set_calls g9 ac ⟨gi, y, none⟩ _ _ BX.out HC1.out HC2.out).mono ?_; rintro e w8 ⟨rfl, hw8⟩; have n1_ := am (show impl_sd.St w8 base g ⟨st, credit, data_, (impl_sd.told ac is_ o (x + 1)), sent, finish, fin⟩ (.slice Ad data_.length cd) (.slice (some ⟨gi, 0, none⟩) is_.length ci) ∧ impl_sd.Kp w w8 base g (.slice Ad data_.length cd) (.slice (some ⟨gi, 0, none⟩) is_.length ci) (.slice Ad data_.length cd) (.slice (some ⟨gi, 0, none⟩) is_.length ci) ∧ w8.heap[g9]? = some (.cells #[.bool ac] 4 (0, 0)) from impl_sd.setStep HI.out.2 HS.out HK.out BX.out HGI2.out hw8); clear HS HK BX hw8; have HS := Aside0.mk n1_.out.1; have HK := Aside0.mk n1_.out.2.1; have BX := Aside0.mk n1_.out.2.2; clear n1_))
                go_roundg k1
                case measure => have := HI.out; omega
                case rel => exact ⟨x + 1, y + 1, (by first | rfl | (rw [show ((y : Int) + 1) = ((y + 1 : Nat) : Int) by omega]; done) | (congr 1; omega)), ⟨by have := HI.out; omega, by have := HI.out; omega⟩, HS, HK, BX⟩
            · have q7 : decide ((y : Int) < (o : Int) + (nn : Int)) = false := decide_eq_false (by have := HI.out; omega)
              have ex : x = nn := by have := HI.out.1; omega
              subst ex
              clear HI c7
              go_upto_region 14 with (fail)
              obtain ⟨is2, hi2⟩ : ∃ y : List Int, y = impl_sd.told ac is_ o x := ⟨_, rfl⟩
              have HI2 := Aside0.mk hi2
              have hS_ := HS.out
              have hR2_ := HR2.out
              rw [← hi2] at hS_ hR2_
              simp only [reduceIte, Bool.false_eq_true] at hS_ hR2_
              clear HS HR2
              have HS := Aside0.mk hS_
              have HR2 := Aside0.mk hR2_
              clear hS_ hR2_ hi2
              have HLI := am (show is2.length ≤ 65536 from by rw [HI2.out, impl_sd.told_len]; exact HL.out.2.1)
              by_cases c9 : fin = 2
              · have q9 : (fin == 2) = true := beq_iff_eq.2 c9
                have HC9 := Aside0.mk c9
                clear c9
                obtain ⟨bb, hbb⟩ : ∃ y : Bool, y = impl_sd.acked is2 := ⟨_, rfl⟩
                have HBB := Aside0.mk hbb
                have ack_ : ∀ W, impl_sd.St W base g ⟨st, credit, data_, is2, sent, finish, fin⟩ (.slice Ad data_.length cd) (.slice Ai is_.length ci) → Calls Try.prog 21 #[.pointer (some ⟨g, 0, none⟩)] W fun e w' => e = .returned (.bool bb) ∧ ∃ m, w' = W.drewN m := fun W hW => by rw [hbb]; exact impl_sd.allAcked_calls base g _ _ _ W hW HLI.out
                clear hbb
                cases bb with
                | true =>
                  have hR := HR2.out
                  rw [if_pos ⟨HC9.out, HBB.out.symm⟩] at hR
                  have ER := Aside0.mk hR
                  clear hR HR2
                  go_wp2_with (first | (go_at_call 21; refine (ack_ _ (by first | exact HS.out | exact HS.out.drew | exact HS.out.drewN _ | ((with_reducible repeat (first | exact HS.out | apply impl_sd.St.drewN | apply impl_sd.St.drew | apply impl_sd.St.alloc)); done))).mono ?_; rintro e w7_ ⟨rfl, md_, hmd_⟩; subst hmd_))
                  go_ret
                  rw [ER.out]
                  exact ⟨rfl, (by (with_reducible repeat (first | apply impl_sd.St.drewN | apply impl_sd.St.drew)); exact impl_sd.St.set (v := ⟨st, credit, data_, is2, sent, finish, fin⟩) (by first | exact HS.out | exact HS.out.drew | exact HS.out.drewN _ | ((with_reducible repeat (first | exact HS.out | apply impl_sd.St.drewN | apply impl_sd.St.drew | apply impl_sd.St.alloc)); done)) 0 _ rfl rfl rfl), (by (with_reducible repeat (first | exact HK.out | refine impl_sd.Kp.set ?_ HGB.out _ _ | apply impl_sd.Kp.drewN | apply impl_sd.Kp.drew)); first | done | exact HK.out)⟩
                | false =>
                  have hR := HR2.out
                  rw [if_neg (fun h_ => absurd (HBB.out.trans h_.2) (by simp))] at hR
                  have ER := Aside0.mk hR
                  clear hR HR2
                  go_wp2_with (first | (go_at_call 21; refine (ack_ _ (by first | exact HS.out | exact HS.out.drew | exact HS.out.drewN _ | ((with_reducible repeat (first | exact HS.out | apply impl_sd.St.drewN | apply impl_sd.St.drew | apply impl_sd.St.alloc)); done))).mono ?_; rintro e w7_ ⟨rfl, md_, hmd_⟩; subst hmd_))
                  go_ret
                  rw [ER.out]
                  exact ⟨rfl, (by (with_reducible repeat (first | apply impl_sd.St.drewN | apply impl_sd.St.drew)); exact HS.out), (by (with_reducible repeat (first | exact HK.out | apply impl_sd.Kp.drewN | apply impl_sd.Kp.drew)); first | done | exact HK.out)⟩
              · have q9 : (fin == 2) = false := beq_eq_false_iff_ne.2 c9
                have hR := HR2.out
                rw [if_neg (fun h_ => c9 h_.1)] at hR
                have ER := Aside0.mk hR
                clear hR HR2 c9
                go_wp2
                go_ret
                rw [ER.out]
                exact ⟨rfl, (by (with_reducible repeat (first | apply impl_sd.St.drewN | apply impl_sd.St.drew)); exact HS.out), (by (with_reducible repeat (first | exact HK.out | apply impl_sd.Kp.drewN | apply impl_sd.Kp.drew)); first | done | exact HK.out)⟩


end Go.Proofs.Ytkmopmoglgcamaa.PFnPipe
