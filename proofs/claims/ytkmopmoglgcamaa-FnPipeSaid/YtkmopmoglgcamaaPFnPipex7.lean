-- Written by a program of this repo (xprint.py) out of the translation; Lean checks it. SHRUNK
import Derived.Test.YtkmopmoglgcamaaPFnPipex0
import Derived.Test.YtkmopmoglgcamaaPFnPipex6
namespace Go.Proofs.Ytkmopmoglgcamaa.PFnPipe
open Go.RowKit Go.Proofs.YtkmopmoglgcamaaW.PrintWords Go.Proofs.YtkmopmoglgcamaaW.PrintLast Go.Proofs.YtkmopmoglgcamaaW.PrintMore
attribute [local go_sem] max2_int min2_int max_two min_two max_three min_three max_four min_four   -- for this text's walks alone
set_option linter.unusedVariables false
set_option linter.unusedSimpArgs false

/-! ### impl_RecvRun: function 7 -/
/-! A row of a constant's bytes: nothing is ever written into it; behind its end it bears a mark. -/
def lt_.cells (xs : List Int) : Array Value := (encs (Value.int .u8) xs).toArray
theorem lt_.cell {W : World} {g e : Nat} {xs : List Int} {fr : Nat × Nat} (h : W.heap[g]? = some (.cells (lt_.cells xs) e fr)) : ∀ j u, (encs (Value.int .u8) xs)[j]? = some u → W.cell? ((⟨g, 0, none⟩ : Addr).add j) = some u := by
  intro j u hu
  have hadd : (⟨g, 0, none⟩ : Addr).add j = ⟨g, j, none⟩ := by unfold Addr.add; split <;> simp_all
  rw [hadd, cell_of_row W g j _ e fr h]
  simpa [lt_.cells] using hu
theorem lt_.run {P : Program} {t ty e : TypeId} (ht : P.underlying t = some (.slice e)) (hinfo : (P.info? e).map (fun i => (i.zero, i.size, i.bytes)) = some (some (.int .u8 0), 1, 1))
    {W : World} {g : Nat} {xs : List Int} {fr : Nat × Nat} (h : W.heap[g]? = some (.cells (lt_.cells xs) e fr)) {a : Addr} {m c : Nat} {ys : List Int} (hm : ys.length = m) (hy : ∀ j u, (encs (Value.int .u8) ys)[j]? = some u → W.cell? (a.add j) = some u)
    (h0 : 0 < m) (hl : xs.length + m ≤ 100000000) {base : Nat} (hb : base ≤ W.heap.size) {ok : Nat → Prop} (hf : ∀ k, W.heap.size ≤ k → ok k) :
    ∃ v1 w1, (Builtin.append_ #[t, t] ty #[.slice (some ⟨g, 0, none⟩) xs.length xs.length, .slice (some a) m c]).run P W = .ok v1 w1 ∧ Kd.R (Kd.int .u8) e w1 base ok v1 (xs ++ ys) ∧ Below W.heap.size W w1 := by
  obtain ⟨i, hi, hzz⟩ := Option.map_eq_some_iff.1 hinfo
  simp only [Prod.mk.injEq] at hzz
  obtain ⟨hz, hs, hby⟩ := hzz
  have hxl : (encs (Value.int .u8) xs).length = xs.length := encs_length xs
  have hyl : (encs (Value.int .u8) ys).length = m := by rw [encs_length]; exact hm
  have hr := run_append_grow (P := P) W t ty e i (.int .u8 0) ht hi hz ⟨g, 0, none⟩ xs.length xs.length (encs (Value.int .u8) xs) (by rw [hs]; simpa using hxl) (lt_.cell h) a m c (encs (Value.int .u8) ys) (by rw [hs]; simpa using hyl) hy (by omega) (by omega) (by rw [hby]; exact growslice_fits (by omega) (by omega))
  have hge := grownCap_ge W (xs.length + m) xs.length e
  have hcm : grownCap W (xs.length + m) xs.length e ≤ maxLen := grownCap_le_maxLen W (xs.length + m) xs.length e (by simp only [maxLen]; omega)
  refine ⟨_, _, hr, Kd.R_of_own ?_ (fun k hk => ?_), (Below.refl W.heap.size W).drew.alloc (Nat.le_refl _) _⟩
  · refine ⟨by rw [encs_length, Nat.mul_one], .inr ⟨W.heap.size, _, _, by rw [List.length_append, hm], hb, heap_alloc_new W.drew _, by rw [List.length_append, hm]; exact hge, hcm, ?_, ?_⟩⟩
    · have hz1 : (Value.int IntKind.u8 0).cells.size = 1 := rfl
      simp only [Array.size_append, List.size_toArray, size_zeroCells, hz1, hxl, hyl]
      omega
    · simp only [Array.toList_append, List.append_assoc]
      rw [← List.append_assoc, ← encs_append, Nat.mul_one, ← encs_length (enc := Value.int .u8) (xs ++ ys)]
      exact List.take_left
  · have : W.heap.size = k := by simpa [Value.ownBlock] using hk
    exact hf k (by omega)
section
variable {P : Program} {ops : Array Oper} {rest : List Oper} {o : Oper} {a : Act} {Q : Exit → Act → World → Prop}
/-- append(a constant's bytes, ys..). -/
theorem lt_.append {W : World} (base : Nat) (hgd : o.guard = none) (s x : Operand) (t e : TypeId)
    (ho : o.op = .call { callee := .builtin .append, args := #[s, x], argTypes := #[t, t] }) (ht : P.underlying t = some (.slice e)) (hinfo : (P.info? e).map (fun i => (i.zero, i.size, i.bytes)) = some (some (.int .u8 0), 1, 1))
    (g : Nat) (xs ys : List Int) (fr : Nat × Nat) (A : Option Addr) (m c : Nat) (ok : Nat → Prop) (hs : a.eval s = .slice (some ⟨g, 0, none⟩) xs.length xs.length) (hx : a.eval x = .slice A m c)
    (hg : W.heap[g]? = some (.cells (lt_.cells xs) e fr)) (HR : Kd.C (Kd.int .u8) W A m ys) (h0 : 0 < m) (hl : xs.length + m ≤ 100000000) (hfresh : ∀ k, W.heap.size ≤ k → ok k) (hbase : base ≤ W.heap.size)
    (h : ∀ v1 w1, Kd.R (Kd.int .u8) e w1 base ok v1 (xs ++ ys) → Below W.heap.size W w1 → wpList P ops Q rest (a.put o.dst v1) w1) : wpList P ops Q (o :: rest) a W := by
  obtain ⟨ad, rfl, _⟩ := HR.2.2 h0
  obtain ⟨news, hnr, hnc⟩ := ReadsRow.inner_ HR
  have hm : ys.length = m := HR.1
  have hne : news = encs (Value.int .u8) ys := by
    have hnl : news.length = ys.length := by simpa [Kd.int, Kd.scalar] using hnr.1
    refine List.ext_getElem? (fun j => ?_)
    rcases Nat.lt_or_ge j ys.length with hj | hj
    · have h1 := hnr.2 j _ (List.getElem?_eq_getElem hj)
      simp only [encs, List.getElem?_map, List.getElem?_eq_getElem hj, Option.map_some]
      have h2 : (news.drop j).take 1 = [Value.int .u8 ys[j]] := by simpa [Kd.int, Kd.scalar] using h1
      have h3 : [news[j]'(by omega)] = [Value.int .u8 ys[j]] := by rw [← h2, List.drop_eq_getElem_cons (by omega)]; rfl
      rw [List.getElem?_eq_getElem (by omega), (List.cons.inj h3).1]
    · rw [List.getElem?_eq_none (by omega), List.getElem?_eq_none (by rw [encs_length]; exact hj)]
  subst hne
  obtain ⟨v1, w1, hr1, h1, hb1⟩ := lt_.run (ty := o.type) ht hinfo hg hm hnc h0 hl hbase hfresh
  refine wpList_plain hgd fun K hK => ?_
  unfold Oper.wp execOp
  simp only [ho, resolve, invoke, builtin, Sem.run_bind, Sem.run_pure, Result.andThen_ok, List.map_toArray, List.map_cons, List.map_nil, hs, hx]
  rw [hr1]
  exact hK _ _ (h v1 w1 h1 hb1)
end
theorem lt_.kept {W0 w2 : World} {o : Obj} (hb : Below (W0.alloc o).heap.size (W0.alloc o) w2) : w2.heap[W0.heap.size]? = some o := (hb.block _ (by show W0.heap.size < (W0.heap.push o).size; rw [Array.size_push]; omega)).trans (heap_alloc_new W0 o)
theorem lt_.keptd {W0 w2 : World} {o : Obj} (hb : Below (W0.alloc o).drew.heap.size (W0.alloc o).drew w2) : w2.heap[W0.heap.size]? = some o := lt_.kept (show Below (W0.alloc o).heap.size (W0.alloc o) w2 from ⟨hb.os, hb.tape, hb.output, hb.size, hb.block⟩)
theorem lt_.old {W : World} {g : Nat} {o o' : Obj} (h : W.heap[g]? = some o) : (W.alloc o').heap[g]? = some o := (heap_alloc_old W o' (Array.getElem?_eq_some_iff.1 h).1).trans h
/-- A row of one's own, or still the constant's bytes. -/
def lt_.LO (w W : World) (e g : Nat) (l0 : List Int) (fr : Nat × Nat) (v : Value) (x : List Int) : Prop :=
  Kd.R (Kd.int .u8) e W w.heap.size (fun _ => True) v x ∨ (x = l0 ∧ v = .slice (some ⟨g, 0, none⟩) l0.length l0.length ∧ W.heap[g]? = some (.cells (lt_.cells l0) e fr))
theorem lt_.LO.alloc {w W : World} {e g : Nat} {l0 : List Int} {fr : Nat × Nat} {v : Value} {x : List Int} (h : lt_.LO w W e g l0 fr v x) (o : Obj) : lt_.LO w (W.alloc o) e g l0 fr v x := h.imp (fun h => Kd.R_alloc h o) (fun h => ⟨h.1, h.2.1, lt_.old h.2.2⟩)
theorem lt_.LO.drew {w W : World} {e g : Nat} {l0 : List Int} {fr : Nat × Nat} {v : Value} {x : List Int} (h : lt_.LO w W e g l0 fr v x) : lt_.LO w W.drew e g l0 fr v x := h.imp (fun h => Kd.R_drew h) (fun h => h)
theorem lt_.LO.drewN {w W : World} {e g : Nat} {l0 : List Int} {fr : Nat × Nat} {v : Value} {x : List Int} (h : lt_.LO w W e g l0 fr v x) (n : Nat) : lt_.LO w (W.drewN n) e g l0 fr v x := h.imp (fun h => Kd.R_drewN h n) (fun h => ⟨h.1, h.2.1, by rw [← h.2.2]; simp⟩)
theorem lt_.C1 {W : World} {e : Nat} (p : Int) : Kd.C (Kd.int .u8) (W.alloc (.cells [Value.int .u8 p].toArray e)) (some ⟨W.heap.size, 0, none⟩) 1 [p] := by
  have h := World.ownsRow_lit (base := W.heap.size) (e := e) (size := 1) W [Value.int .u8 p].toArray 1 (Nat.le_refl _) (by simp [maxLen]) (by simp)
  exact (Kd.R_reads' (Kd.R_of_own (enc := Value.int .u8) (h1 := fun _ => rfl) (ok := fun _ => True) (xs := [p]) (v := .slice (some ⟨W.heap.size, 0, none⟩) 1 1) (by simpa [encs] using h) (fun _ _ => trivial))).2.2
theorem lt_.append1 {P : Program} {ops : Array Oper} {rest : List Oper} {o : Oper} {a : Act} {Q : Exit → Act → World → Prop} {w W : World} (hgd : o.guard = none) (s x : Operand) (t e : TypeId)
    (ho : o.op = .call { callee := .builtin .append, args := #[s, x], argTypes := #[t, t] }) (ht : P.underlying t = some (.slice e)) (hinfo : (P.info? e).map (fun i => (i.zero, i.size, i.bytes)) = some (some (.int .u8 0), 1, 1))
    (g : Nat) (l0 : List Int) (fr : Nat × Nat) (v : Value) (xs : List Int) (p : Int) (hs : a.eval s = v) (hx : a.eval x = .slice (some ⟨W.heap.size, 0, none⟩) 1 1)
    (HO : lt_.LO w W e g l0 fr v xs) (HB : Below w.heap.size w W) (hl : xs.length < 140737488355328) (hl0 : l0.length ≤ 1000)
    (h : ∀ v1 w1, Kd.R (Kd.int .u8) e w1 w.heap.size (fun _ => True) v1 (xs ++ [p]) → Below w.heap.size w w1 → wpList P ops Q rest (a.put o.dst v1) w1) : wpList P ops Q (o :: rest) a (W.alloc (.cells [Value.int .u8 p].toArray e)) := by
  rcases HO with hr | ⟨rfl, rfl, hg⟩
  · exact Kd.R_append (Kd.int .u8) (w0 := w) w.heap.size hgd s x t e (.int .u8 0) 1 ho ht hinfo rfl (by decide) (by omega) v xs p [.int .u8 p] (fun _ => True) (fun _ => False) hs hx rfl (fun _ hk => hk.elim) (fun _ _ => trivial) hr HB (below_size HB) (by omega) (fun v1 w1 h1 h2 _ _ => h v1 w1 h1 h2)
  · have hb0 : Below w.heap.size w (W.alloc (.cells [Value.int .u8 p].toArray e)) := HB.alloc (below_size HB) _
    exact lt_.append w.heap.size hgd s x t e ho ht hinfo g xs [p] fr _ 1 1 (fun _ => True) hs hx (lt_.old hg) (lt_.C1 p) (by decide) (by omega) (fun _ _ => trivial) (below_size hb0) (fun v1 w1 h1 h2 => h v1 w1 h1 (below_step hb0 h2))
/-! The receiving part: its block g and its map's block b. -/
open Go.Proofs.Ytkmopmoglgcamaa.MapF in
noncomputable def impl_rc.K : KeyT Try.prog 3 Int := keyInt Try.underlying3
open Go.Proofs.Ytkmopmoglgcamaa.MapF in
noncomputable def impl_rc.E : ElT Try.prog 5 Int := elInt .u8 Try.underlying5 (fun w => by kernel_rfl)
/-- What a receiving part knows: f: the bytes that are kept, c: how many. -/
structure impl_rc.V where
  st : Int
  told : Int
  win : Int
  read : Int
  top : Int
  fin : Int
  known : Bool
  f : Int → Option Int
  c : Nat
structure impl_rc.St (w : World) (g b n : Nat) (v : impl_rc.V) : Prop where
  s : w.heap[g]? = some (.cells #[.int .i64 v.st, .int .i64 v.told, .int .i64 v.win, .map (some b), .int .i64 v.read, .int .i64 v.top, .int .i64 v.fin, .bool v.known] 56 (0, 0))
  m : Go.Proofs.Ytkmopmoglgcamaa.MapF.MapF impl_rc.K impl_rc.E w b n v.f v.c
/-- What a call on it leaves as it was. -/
structure impl_rc.Kp (w W : World) (g b : Nat) : Prop where
  sz : w.heap.size ≤ W.heap.size
  kb : ∀ i, i < w.heap.size → i ≠ g → i ≠ b → W.heap[i]? = w.heap[i]?
  bl : ∀ B, B ≤ g → B ≤ b → Below B w W
theorem impl_rc.Kp.refl (w : World) (g b : Nat) : impl_rc.Kp w w g b := ⟨Nat.le_refl _, fun _ _ _ _ => rfl, fun B _ _ => Below.refl B w⟩
theorem impl_rc.Kp.drewN {w W : World} {g b : Nat} (h : impl_rc.Kp w W g b) (n : Nat) : impl_rc.Kp w (W.drewN n) g b := ⟨h.sz, h.kb, fun B hg hb => pw_below_drewN (h.bl B hg hb) n⟩
theorem impl_rc.Kp.drew {w W : World} {g b : Nat} (h : impl_rc.Kp w W g b) : impl_rc.Kp w W.drew g b := ⟨h.sz, h.kb, fun B hg hb => (h.bl B hg hb).drew⟩
theorem impl_rc.Kp.trans {w W W2 : World} {g b : Nat} (h : impl_rc.Kp w W g b) (k : impl_rc.Kp W W2 g b) : impl_rc.Kp w W2 g b := ⟨Nat.le_trans h.sz k.sz, fun i hi hg hb => (k.kb i (Nat.lt_of_lt_of_le hi h.sz) hg hb).trans (h.kb i hi hg hb), fun B hg hb => (h.bl B hg hb).trans (k.bl B hg hb)⟩
theorem impl_rc.Kp.set {w W : World} {g b : Nat} (h : impl_rc.Kp w W g b) (j : Nat) (u : Value) : impl_rc.Kp w (W.setCell ⟨g, j, none⟩ u) g b :=
  ⟨by simpa [World.setCell] using h.sz, fun i hi hg hb => (Below.heap_setCell W ⟨g, j, none⟩ u i hg).trans (h.kb i hi hg hb), fun B hg hb => (h.bl B hg hb).setCell hg u⟩
theorem impl_rc.Kp.below {w W W2 : World} {g b : Nat} (h : impl_rc.Kp w W g b) (hg : g ≤ w.heap.size) (hb_ : b ≤ w.heap.size) (hb : Below W.heap.size W W2) : impl_rc.Kp w W2 g b :=
  ⟨Nat.le_trans h.sz hb.size, fun i hi h1 h2 => (hb.block i (Nat.lt_of_lt_of_le hi h.sz)).trans (h.kb i hi h1 h2), fun B h1 h2 => (h.bl B h1 h2).trans (hb.mono (Nat.le_trans h1 (Nat.le_trans hg h.sz)))⟩
theorem impl_rc.Kp.grown {w W W2 : World} {g b : Nat} (h : impl_rc.Kp w W g b) (hb : W.grownBy W2 (some b)) (hB : ∀ B, B ≤ b → Below B W W2) : impl_rc.Kp w W2 g b :=
  ⟨Nat.le_trans h.sz hb.size, fun i hi h1 h2 => (hb.block i (Nat.lt_of_lt_of_le hi h.sz) (by simpa using h2)).trans (h.kb i hi h1 h2), fun B h1 h2 => (h.bl B h1 h2).trans (hB B h2)⟩
theorem impl_rc.St.drewN {w : World} {g b n : Nat} {v : impl_rc.V} (h : impl_rc.St w g b n v) (m : Nat) : impl_rc.St (w.drewN m) g b n v := ⟨blk_drewN h.s m, h.m.drewN m⟩
theorem impl_rc.St.drew {w : World} {g b n : Nat} {v : impl_rc.V} (h : impl_rc.St w g b n v) : impl_rc.St w.drew g b n v := ⟨blk_drew h.s, h.m.drew⟩
theorem impl_rc.St.below {w W : World} {g b n : Nat} {v : impl_rc.V} (h : impl_rc.St w g b n v) (hb : Below w.heap.size w W) : impl_rc.St W g b n v := ⟨blk_below h.s hb, h.m.below hb⟩
theorem impl_rc.St.ne {w : World} {g b n : Nat} {v : impl_rc.V} (h : impl_rc.St w g b n v) : b ≠ g := by
  intro e
  obtain ⟨D, ⟨es, clock, h0, h1⟩, h2⟩ := h.m
  rw [e, h.s] at h0
  cases h0
theorem impl_rc.c8 {W : World} {g t : Nat} {a0 a1 a2 a3 a4 a5 a6 a7 : Value} (h : W.heap[g]? = some (.cells #[a0, a1, a2, a3, a4, a5, a6, a7] t (0, 0))) :
    W.cell? ⟨g, 0, none⟩ = some a0 ∧ W.frozen? ⟨g, 0, none⟩ = false ∧ W.cell? ⟨g, 1, none⟩ = some a1 ∧ W.frozen? ⟨g, 1, none⟩ = false ∧ W.cell? ⟨g, 2, none⟩ = some a2 ∧ W.frozen? ⟨g, 2, none⟩ = false ∧ W.cell? ⟨g, 3, none⟩ = some a3 ∧ W.frozen? ⟨g, 3, none⟩ = false ∧ W.cell? ⟨g, 4, none⟩ = some a4 ∧ W.frozen? ⟨g, 4, none⟩ = false ∧ W.cell? ⟨g, 5, none⟩ = some a5 ∧ W.frozen? ⟨g, 5, none⟩ = false ∧ W.cell? ⟨g, 6, none⟩ = some a6 ∧ W.frozen? ⟨g, 6, none⟩ = false ∧ W.cell? ⟨g, 7, none⟩ = some a7 ∧ W.frozen? ⟨g, 7, none⟩ = false :=
  ⟨(blk_cell h 0).trans rfl, blk_frozen h 0, (blk_cell h 1).trans rfl, blk_frozen h 1, (blk_cell h 2).trans rfl, blk_frozen h 2, (blk_cell h 3).trans rfl, blk_frozen h 3, (blk_cell h 4).trans rfl, blk_frozen h 4, (blk_cell h 5).trans rfl, blk_frozen h 5, (blk_cell h 6).trans rfl, blk_frozen h 6, (blk_cell h 7).trans rfl, blk_frozen h 7⟩
set_option maxHeartbeats 8000000 in
set_option maxRecDepth 100000 in
theorem impl_rc.complete_calls (g b n : Nat) (v : impl_rc.V) (w : World) (h : impl_rc.St w g b n v) :
    Calls Try.prog 22 #[.pointer (some ⟨g, 0, none⟩)] w fun e w' => e = .returned (.bool (v.known && (wrap64 (v.read + (v.c : Int)) == v.fin))) ∧ ∃ m, w' = w.drewN m := by
  obtain ⟨st, told, win, read, top, fin, known, f, c⟩ := v
  obtain ⟨y0, f0, y1, f1, y2, f2, y3, f3, y4, f4, y5, f5, y6, f6, y7, f7⟩ := impl_rc.c8 h.s
  have kl := fun (ty : TypeId) (m : Nat) => (h.m.drewN m).len Try.underlying54 ty
  clear h
  dsimp only at y0 y1 y2 y3 y4 y5 y6 y7 kl ⊢
  cases known with
  | true =>
    go_enter Try.func22, Try.ntmps22
    go_wp2
    go_quiet (fail)
    go_wp2
    go_ret
    exact ⟨rfl, _, rfl⟩
  | false =>
    go_enter Try.func22, Try.ntmps22
    go_wp2
    go_quiet (fail)
    go_wp2
    go_ret
    exact ⟨rfl, _, rfl⟩
theorem impl_rc.Kp.of {w W : World} (h : Below w.heap.size w W) (g b : Nat) (hg : g ≤ w.heap.size) (hb : b ≤ w.heap.size) : impl_rc.Kp w W g b := ⟨h.size, fun i hi _ _ => h.block i hi, fun B h1 _ => h.mono (Nat.le_trans h1 hg)⟩
theorem impl_rc.cwp_seal {P : Program} {c : Code} {Q : Exit → Act → World → Prop} {a : Act} {W : World} (F : World → Prop) (h : F W) (k : ∀ W', F W' → Code.wp P c Q a W') : Code.wp P c Q a W := k W h
theorem impl_rc.next_ {P : Program} {c : Code} {Q : Exit → Act → World → Prop} {K : Act → World → Prop} {a : Act} {W : World} (h : ∀ (a : Act) (w : World), Code.wp P c Q a w → K a w) (k : Code.wp P c Q a W) : K a W := h a W k
theorem impl_rc.look {w : World} {g b n : Nat} {v : impl_rc.V} (h : impl_rc.St w g b n v) (y : Int) (hy : (Lit.int .i64 y).wf = true) (m : Nat) : (Instr.lookup 54 (.map (some b)) (.int .i64 y) true).run Try.prog (w.drewN m) = .ok (.tuple #[.int .u8 ((v.f y).getD 0), .bool (v.f y).isSome]) (w.drewN m) :=
  (h.m.drewN m).look_ok Try.underlying54 y hy
theorem impl_rc.infoB : (Try.prog.info? 5).map (fun i => (i.zero, i.size, i.bytes)) = some (some (.int .u8 0), 1, 1) := by kernel_rfl
def impl_rc.ready (f : Int → Option Int) (read nn : Int) : Nat → List Int → Option (List Int)
  | 0, _ => none
  | k + 1, acc => if (acc.length : Int) < nn then (if acc.length ≤ 100000000 then (match f (wrap64 (read + (acc.length : Int))) with | some x => impl_rc.ready f read nn k (acc ++ [x]) | none => some acc) else none) else some acc
set_option maxHeartbeats 8000000 in
set_option maxRecDepth 100000 in
theorem impl_rc.ready_calls (k g b n : Nat) (v : impl_rc.V) (nn : Int) (r : List Int) (w : World) (h : impl_rc.St w g b n v) (hr : impl_rc.ready v.f v.read nn k [] = some r) :
    Calls Try.prog 24 #[.pointer (some ⟨g, 0, none⟩), .int .i64 nn] w fun e w' => ∃ v0, e = .returned v0 ∧ Kd.R (Kd.int .u8) 5 w' w.heap.size (fun _ => True) v0 r ∧ Below w.heap.size w w' := by
  have HS := Aside0.mk h
  have HB := am (Below.refl w.heap.size w)
  have HL0 := Aside0.mk hr
  clear h hr
  go_enter Try.func24, Try.ntmps24
  go_upto_block 0 with (first | ((with_reducible refine gate_dst (N := 8) rfl ?_); refine Kd.R_lit (Kd.int .u8) _ 5 ?hg (N := 8) ?hd (xs := ([] : List Int)) (inner := []) (ok := fun _ => True) (okp := fun _ => True) ?hr ?hp (fun _ hk => hk) trivial (Below.refl _ _) (Nat.le_refl _) (by simp) ?_; (case hd => rfl); (case hg => rfl); (case hr => first | (go_simp; done) | (go_simp; rfl)); (case hp => exact (Reps.none _ _)); intro v3 w3 ho hb hg_ hnew_; clear hg_ hnew_; have HO := am (show Kd.R (Kd.int .u8) 5 w3 w.heap.size (fun _ => True) v3 [] from Kd.R_lower ho (below_size (hq HB.out))); have h2_ := am (below_step (hq HB.out) hb); clear HB; have HB := h2_; clear h2_ ho hb))
  go_wp2
  go_loopg [5] k (fun kq v5 wr => ∃ acc : List Int, Aside0 (impl_rc.ready v.f v.read nn kq acc = some r) ∧ Aside0 (kq ≤ k) ∧ Aside0 (Kd.R (Kd.int .u8) 5 wr w.heap.size (fun _ => True) v5 acc) ∧ Aside0 (Below w.heap.size w wr))
  case atStart => exact ⟨[], HL0, ⟨Nat.le_refl _⟩, ⟨(rq HO.out)⟩, ⟨(hq HB.out)⟩⟩
  case round =>
    clear HL0 HO HB
    obtain ⟨acc, HA, HK1, HO, HB⟩ := hrel
    obtain ⟨A5, c5, rfl⟩ := Kd.R_slice HO.out
    cases gk with
    | zero => exact absurd HA.out (by simp [impl_rc.ready])
    | succ k1 =>
      have h := HA.out
      clear HA
      simp only [impl_rc.ready] at h
      have HS2 := am (HS.out.below HB.out)
      obtain ⟨y0, f0, y1, f1, y2, f2, y3, f3, y4, f4, y5, f5, y6, f6, y7, f7⟩ := impl_rc.c8 HS2.out.s
      by_cases c1 : (acc.length : Int) < nn
      · rw [if_pos c1] at h
        have q1 : decide ((acc.length : Int) < nn) = true := decide_eq_true c1
        clear c1
        by_cases c2 : acc.length ≤ 100000000
        · rw [if_pos c2] at h
          have HST := Aside0.mk c2
          clear c2
          obtain ⟨y, hy⟩ : ∃ y : Int, y = wrap64 (v.read + (acc.length : Int)) := ⟨_, rfl⟩
          rw [← hy] at h
          have e0 : IntKind.i64.wrap (v.read + (acc.length : Int)) = y := by rw [hy]; exact IntWalk.i64_left _
          have kl := impl_rc.look HS2.out y (by rw [hy]; exact wrap64_wf _)
          clear hy
          cases hf : v.f y with
          | none =>
            rw [hf] at h kl
            have H := Aside0.mk h
            clear h hf
            simp only [Option.isSome_none, Option.getD_none] at kl
            go_wp2
            go_quiet (fail)
            refine impl_rc.next_ (by assumption) ?_
            clear kl
            have h := H.out
            clear H
            simp only [Option.some.injEq] at h
            subst h
            go_wp2
            go_ret
            exact ⟨_, rfl, (rq HO.out), (hq HB.out)⟩
          | some x =>
            rw [hf] at h kl
            have H := Aside0.mk h
            clear h hf
            simp only [Option.isSome_some, Option.getD_some] at kl
            go_wp2
            go_quiet (fail)
            refine impl_rc.next_ (by assumption) ?_
            clear kl
            go_wp2_with (first | ((with_reducible refine gate_builtin (b := .append) (xs := #[.tmp 30, .tmp 32]) rfl ?_); (try (refine gate_guard (by rfl) ?_; dsimp only)); at_builtin; refine Kd.R_append (Kd.int .u8) (w0 := w) w.heap.size rfl (.tmp 30) (.tmp 32) 22 5 (.int .u8 0) 1 rfl Try.underlying22 impl_rc.infoB rfl (by decide) (by omega) _ acc x [.int .u8 x] (fun _ => True) (fun _ => False) rfl rfl ?aP (fun _ hk => hk.elim) ?aF ?aO ?aB ?aS ?aL ?_; (case aP => exact rfl); (case aB => exact (hq HB.out)); (case aF => exact (fun _ _ => trivial)); (case aO => exact (rq HO.out)); (case aS => exact (below_size (hq HB.out))); (case aL => have := HST.out; omega); intro v5 w25 ho hb hg hat; have n0_ := Aside0.mk hb; have n1_ := Aside0.mk ho; clear HB HO; have HB := n0_; have HO := n1_; clear n0_ n1_ ho hb hg hat))
            go_roundg k1
            case measure => have := HK1.out; omega
            case rel => exact ⟨acc ++ [x], H, ⟨by have := HK1.out; omega⟩, ⟨(rq HO.out)⟩, ⟨(hq HB.out)⟩⟩
        · rw [if_neg c2] at h; exact absurd h (by simp)
      · rw [if_neg c1] at h
        have q1 : decide ((acc.length : Int) < nn) = false := decide_eq_false c1
        clear c1
        simp only [Option.some.injEq] at h
        subst h
        go_wp2
        go_ret
        exact ⟨_, rfl, (rq HO.out), (hq HB.out)⟩

theorem impl_rc.R_b {α : Type} {d : Kd α} {e b base : Nat} {w w' : World} {ok : Nat → Prop} {v : Value} {xs : List α} (hR : d.R e w base ok v xs) (hb : b < base) (hg : w.grownBy w' (some b)) : d.R e w' base ok v xs :=
  Kd.R_mono (Kd.R_grown (Kd.R_bound hR) hg (fun k hk he => by injection he with he; have := hk.2.1; omega)) (fun _ hk => hk.1)
theorem impl_rc.R_g {α : Type} {d : Kd α} {e g base : Nat} {w : World} {ok : Nat → Prop} {v : Value} {xs : List α} (hR : d.R e w base ok v xs) (hg : g < base) (j : Nat) (u : Value) : d.R e (w.setCell ⟨g, j, none⟩ u) base ok v xs :=
  Kd.R_mono (Kd.R_far (Kd.R_bound hR) (fun k hk => by show k ≠ g; have := hk.2.1; omega) u) (fun _ hk => hk.1)
noncomputable def impl_rc.dels (f : Int → Option Int) (c : Nat) (read : Int) : Nat → (Int → Option Int) × Nat
  | 0 => (f, c)
  | i + 1 => (Go.Proofs.Ytkmopmoglgcamaa.MapF.upd (impl_rc.dels f c read i).1 (wrap64 (read + (i : Int))) none, if ((impl_rc.dels f c read i).1 (wrap64 (read + (i : Int)))).isSome then (impl_rc.dels f c read i).2 - 1 else (impl_rc.dels f c read i).2)
noncomputable section
def impl_rc.take (k : Nat) (v : impl_rc.V) (nn : Int) : Option ((List Int × Bool × Int) × impl_rc.V) :=
  if nn < 1 then some (([], false, 1), v)
  else if v.st = 4 then some (([], false, 23), { v with st := 5 })
  else if v.st = 5 then some (([], false, 23), { v with st := 5 })
  else (impl_rc.ready v.f v.read nn k []).bind fun r =>
    if r.length ≤ 1000000 then
      (if v.st = 2 ∧ wrap64 (v.read + (r.length : Int)) = v.fin then some ((r, true, 0), { v with st := 3, read := wrap64 (v.read + (r.length : Int)), f := (impl_rc.dels v.f v.c v.read r.length).1, c := (impl_rc.dels v.f v.c v.read r.length).2 })
      else if v.st = 0 then (impl_CreditNext.f k (wrap64 (v.read + (r.length : Int))) v.win v.told).bind fun t => some ((r, false, 0), { v with told := t, read := wrap64 (v.read + (r.length : Int)), f := (impl_rc.dels v.f v.c v.read r.length).1, c := (impl_rc.dels v.f v.c v.read r.length).2 })
      else some ((r, decide (v.st = 3), 0), { v with read := wrap64 (v.read + (r.length : Int)), f := (impl_rc.dels v.f v.c v.read r.length).1, c := (impl_rc.dels v.f v.c v.read r.length).2 }))
    else none
end
theorem impl_rc.St.set {w : World} {g b n : Nat} {v v' : impl_rc.V} (h : impl_rc.St w g b n v) (j : Nat) (u : Value)
    (e : (#[.int .i64 v.st, .int .i64 v.told, .int .i64 v.win, .map (some b), .int .i64 v.read, .int .i64 v.top, .int .i64 v.fin, .bool v.known] : Array Value).setIfInBounds j u = #[.int .i64 v'.st, .int .i64 v'.told, .int .i64 v'.win, .map (some b), .int .i64 v'.read, .int .i64 v'.top, .int .i64 v'.fin, .bool v'.known]) (ef : v'.f = v.f) (ec : v'.c = v.c) : impl_rc.St (w.setCell ⟨g, j, none⟩ u) g b n v' :=
  ⟨blk_put h.s j u e, by rw [ef, ec]; exact h.m.setCell h.ne u⟩
theorem impl_rc.drop {w : World} {g b n : Nat} {v : impl_rc.V} (h : impl_rc.St w g b n v) (y : Int) (hy : (Lit.int .i64 y).wf = true) :
    ∃ W' : Nat → World, ∀ m, (Builtin.delete_ #[54, 3] 0 #[.map (some b), .int .i64 y]).run Try.prog (w.drewN m) = .ok (.tuple #[]) (W' m) ∧
      impl_rc.St (W' m) g b n { v with f := Go.Proofs.Ytkmopmoglgcamaa.MapF.upd v.f y none, c := if (v.f y).isSome then v.c - 1 else v.c } ∧ (w.drewN m).grownBy (W' m) (some b) := by
  have hd : ∀ m, ∃ W', (Builtin.delete_ #[54, 3] 0 #[.map (some b), .int .i64 y]).run Try.prog (w.drewN m) = .ok (.tuple #[]) W' ∧
      impl_rc.St W' g b n { v with f := Go.Proofs.Ytkmopmoglgcamaa.MapF.upd v.f y none, c := if (v.f y).isSome then v.c - 1 else v.c } ∧ (w.drewN m).grownBy W' (some b) := fun m => by
    obtain ⟨W', h1, h2, h3⟩ := (h.m.drewN m).drop Try.underlying54 y hy 0
    have hs := (h.drewN m).s
    exact ⟨W', h1, ⟨(h3.block g (blk_lt hs) (by simpa using h.ne.symm)).trans hs, h2⟩, h3⟩
  exact Classical.axiomOfChoice hd
theorem impl_rc.below_grown {w W : World} {b : Nat} (h : w.grownBy W (some b)) (hb : b < w.heap.size) (B : Nat) (hB : B ≤ b) : Below B w W := (Below.refl B w).grown h (Nat.le_trans hB (Nat.le_of_lt hb)) (fun k hk => by injection hk with hk; omega)
set_option maxHeartbeats 8000000 in
set_option maxRecDepth 100000 in
theorem impl_rc.take_calls (k g b n : Nat) (v v2 : impl_rc.V) (nn : Int) (r : List Int) (en : Bool) (code : Int) (w : World) (h : impl_rc.St w g b n v) (ht : impl_rc.take k v nn = some ((r, en, code), v2)) :
    Calls Try.prog 16 #[.pointer (some ⟨g, 0, none⟩), .int .i64 nn] w fun e w' => ∃ v0, e = .returned (.tuple #[v0, .bool en, .int .i64 code]) ∧ Kd.R (Kd.int .u8) 5 w' w.heap.size (fun _ => True) v0 r ∧ impl_rc.St w' g b n v2 ∧ impl_rc.Kp w w' g b := by
  obtain ⟨st, told, win, read, top, fin, known, f, c⟩ := v
  have HS := Aside0.mk h
  have HGL := am (blk_lt h.s)
  have HBL := Aside0.mk h.m.lt
  obtain ⟨y1_0, f1_0, y1_1, f1_1, y1_2, f1_2, y1_3, f1_3, y1_4, f1_4, y1_5, f1_5, y1_6, f1_6, y1_7, f1_7⟩ := impl_rc.c8 h.s
  dsimp only at y1_0 y1_1 y1_2 y1_3 y1_4 y1_5 y1_6 y1_7
  have HK := am (impl_rc.Kp.refl w g b)
  unfold impl_rc.take at ht
  dsimp only at ht
  clear h
  by_cases c1 : nn < 1
  · rw [if_pos c1] at ht
    have q1 : decide (nn < 1) = true := decide_eq_true c1
    clear c1
    simp only [Option.some.injEq, Prod.mk.injEq] at ht
    obtain ⟨⟨rfl, rfl, rfl⟩, rfl⟩ := ht
    go_enter Try.func16, Try.ntmps16
    go_wp2
    go_ret3
    exact ⟨_, rfl, Kd.R_nil _ _ _ _ _, (by first | exact HS.out | exact HS.out.drew | exact HS.out.drewN _ | ((with_reducible repeat (first | exact HS.out | apply impl_rc.St.drewN | apply impl_rc.St.drew)); done)), (by first | exact HK.out | exact HK.out.drew | exact HK.out.drewN _ | ((with_reducible repeat (first | exact HK.out | apply impl_rc.Kp.drewN | apply impl_rc.Kp.drew)); done))⟩
  · rw [if_neg c1] at ht
    have q1 : decide (nn < 1) = false := decide_eq_false c1
    clear c1
    by_cases c4 : st = 4
    · rw [if_pos c4] at ht
      subst c4
      simp only [Option.some.injEq, Prod.mk.injEq] at ht
      obtain ⟨⟨rfl, rfl, rfl⟩, rfl⟩ := ht
      go_enter Try.func16, Try.ntmps16
      go_wp2
      go_ret3
      exact ⟨_, rfl, Kd.R_nil _ _ _ _ _, (by (with_reducible repeat (first | apply impl_rc.St.drewN | apply impl_rc.St.drew)); exact impl_rc.St.set (v := ⟨4, told, win, read, top, fin, known, f, c⟩) (by first | exact HS.out | exact HS.out.drew | exact HS.out.drewN _ | ((with_reducible repeat (first | exact HS.out | apply impl_rc.St.drewN | apply impl_rc.St.drew)); done)) 0 _ rfl rfl rfl), (by (with_reducible repeat (first | exact HK.out | apply impl_rc.Kp.set | apply impl_rc.Kp.drewN | apply impl_rc.Kp.drew)); first | done | exact HK.out)⟩
    · rw [if_neg c4] at ht
      have qc4 : (st == 4) = false := beq_eq_false_iff_ne.2 c4
      clear c4
      by_cases c5 : st = 5
      · rw [if_pos c5] at ht
        subst c5
        simp only [Option.some.injEq, Prod.mk.injEq] at ht
        obtain ⟨⟨rfl, rfl, rfl⟩, rfl⟩ := ht
        go_enter Try.func16, Try.ntmps16
        go_wp2
        go_ret3
        exact ⟨_, rfl, Kd.R_nil _ _ _ _ _, (by (with_reducible repeat (first | apply impl_rc.St.drewN | apply impl_rc.St.drew)); exact impl_rc.St.set (v := ⟨5, told, win, read, top, fin, known, f, c⟩) (by first | exact HS.out | exact HS.out.drew | exact HS.out.drewN _ | ((with_reducible repeat (first | exact HS.out | apply impl_rc.St.drewN | apply impl_rc.St.drew)); done)) 0 _ rfl rfl rfl), (by (with_reducible repeat (first | exact HK.out | apply impl_rc.Kp.set | apply impl_rc.Kp.drewN | apply impl_rc.Kp.drew)); first | done | exact HK.out)⟩
      · rw [if_neg c5] at ht
        have qc5 : (st == 5) = false := beq_eq_false_iff_ne.2 c5
        clear c5
        obtain ⟨r0, hr, ht2⟩ := Option.bind_eq_some_iff.1 ht
        clear ht
        have ht := ht2
        clear ht2
        by_cases cl : r0.length ≤ 1000000
        · rw [if_pos cl] at ht
          have HR := Aside0.mk hr
          have HCL := Aside0.mk cl
          have HT := Aside0.mk ht
          clear hr ht cl
          go_enter Try.func16, Try.ntmps16
          go_upto_region 7 with (first | (go_at_call 24; refine (impl_rc.ready_calls k g b n ⟨st, told, win, read, top, fin, known, f, c⟩ nn r0 _ (by first | exact HS.out | exact HS.out.drew | exact HS.out.drewN _ | ((with_reducible repeat (first | exact HS.out | apply impl_rc.St.drewN | apply impl_rc.St.drew)); done)) HR.out).mono ?_; rintro e w1 ⟨v0, rfl, ho_, hb_⟩; obtain ⟨A0, c0, rfl⟩ := Kd.R_slice ho_; have HO := am (show Kd.R (Kd.int .u8) 5 w1 w.heap.size (fun _ => True) (.slice A0 r0.length c0) r0 from Kd.R_lower ho_ (show impl_rc.Kp w _ g b from (by first | exact HK.out | exact HK.out.drew | exact HK.out.drewN _ | ((with_reducible repeat (first | exact HK.out | apply impl_rc.Kp.drewN | apply impl_rc.Kp.drew)); done))).sz); have s_ := am (impl_rc.St.below (by first | exact HS.out | exact HS.out.drew | exact HS.out.drewN _ | ((with_reducible repeat (first | exact HS.out | apply impl_rc.St.drewN | apply impl_rc.St.drew)); done)) hb_); have k_ := am (impl_rc.Kp.below (by first | exact HK.out | exact HK.out.drew | exact HK.out.drewN _ | ((with_reducible repeat (first | exact HK.out | apply impl_rc.Kp.drewN | apply impl_rc.Kp.drew)); done)) (Nat.le_of_lt HGL.out) (Nat.le_of_lt HBL.out) hb_); clear HS HK ho_ hb_ y1_0 f1_0 y1_1 f1_1 y1_2 f1_2 y1_3 f1_3 y1_4 f1_4 y1_5 f1_5 y1_6 f1_6 y1_7 f1_7; have HS := s_; have HK := k_; clear s_ k_))
          go_upto_block 0 with (fail)
          go_cut [8] from 9 (fun v8 wc => Aside0 (Kd.R (Kd.int .u8) 5 wc w.heap.size (fun _ => True) (.slice A0 r0.length c0) r0) ∧ Aside0 (impl_rc.St wc g b n ⟨st, told, win, read, top, fin, known, (impl_rc.dels f c read r0.length).1, (impl_rc.dels f c read r0.length).2⟩) ∧ Aside0 (impl_rc.Kp w wc g b))
          case first =>
            clear HT
            go_wp2
            go_loopg [8, 31] r0.length (fun kq v8 v31 wr => ∃ i : Nat, v31 = .int .i64 (i : Int) ∧ Aside0 (i + kq = r0.length) ∧ Aside0 (Kd.R (Kd.int .u8) 5 wr w.heap.size (fun _ => True) (.slice A0 r0.length c0) r0) ∧ Aside0 (impl_rc.St wr g b n ⟨st, told, win, read, top, fin, known, (impl_rc.dels f c read i).1, (impl_rc.dels f c read i).2⟩) ∧ Aside0 (impl_rc.Kp w wr g b))
            case atStart => exact ⟨0, rfl, ⟨Nat.zero_add _⟩, ⟨(rq HO.out)⟩, ⟨(by first | exact HS.out | exact HS.out.drew | exact HS.out.drewN _ | ((with_reducible repeat (first | exact HS.out | apply impl_rc.St.drewN | apply impl_rc.St.drew)); done))⟩, ⟨(by first | exact HK.out | exact HK.out.drew | exact HK.out.drewN _ | ((with_reducible repeat (first | exact HK.out | apply impl_rc.Kp.drewN | apply impl_rc.Kp.drew)); done))⟩⟩
            case round =>
              clear HO HS HK
              obtain ⟨i, rfl, HI, HO, HS, HK⟩ := hrel
              obtain ⟨y2_0, f2_0, y2_1, f2_1, y2_2, f2_2, y2_3, f2_3, y2_4, f2_4, y2_5, f2_5, y2_6, f2_6, y2_7, f2_7⟩ := impl_rc.c8 HS.out.s
              dsimp only at y2_0 y2_1 y2_2 y2_3 y2_4 y2_5 y2_6 y2_7
              by_cases c7 : i < r0.length
              · have q7 : decide ((i : Int) < (r0.length : Int)) = true := decide_eq_true (by omega)
                have q7n : decide (i < r0.length) = true := decide_eq_true c7
                cases gk with
                | zero => exact absurd HI.out (by omega)
                | succ k1 =>
                  obtain ⟨y, hy⟩ : ∃ y : Int, y = wrap64 (read + (i : Int)) := ⟨_, rfl⟩
                  have e0 : IntKind.i64.wrap (read + (i : Int)) = y := by rw [hy]; exact IntWalk.i64_left _
                  have e1 : IntKind.i64.wrap ((i : Int) + 1) = ((i + 1 : Nat) : Int) := by rw [IntWalk.i64_in _ (by have := HCL.out; omega)]; omega
                  obtain ⟨W1, hW⟩ := impl_rc.drop HS.out y (by rw [hy]; exact wrap64_wf _)
                  have kd := fun m => (hW m).1
                  have kd1 : (Builtin.delete_ #[54, 3] 0 #[.map (some b), .int .i64 y]).run Try.prog wr.drew = _ := kd 1
                  have kd0 : (Builtin.delete_ #[54, 3] 0 #[.map (some b), .int .i64 y]).run Try.prog wr = _ := kd 0
                  have HW := am (fun m => (hW m).2)
                  clear hW c7
                  have HY := Aside0.mk hy
                  clear hy
                  go_wp2
                  go_region
                  go_wp2
                  go_roundg k1
                  case measure => have := HI.out; omega
                  case rel =>
                    refine ⟨i + 1, ?_, ?_, ?_, ?_, ?_⟩
                    · rw [show ((i : Int) + 1) = ((i + 1 : Nat) : Int) by omega]
                    · exact ⟨by have := HI.out; omega⟩
                    · have h1_ : Kd.R (Kd.int .u8) 5 (wr.drewN 1) w.heap.size (fun _ => True) (.slice A0 r0.length c0) r0 := Kd.R_drewN HO.out 1
                      exact ⟨impl_rc.R_b h1_ HBL.out (HW.out 1).2⟩
                    · have h_ := (HW.out 1).1
                      rw [HY.out] at h_
                      exact ⟨h_⟩
                    · exact ⟨impl_rc.Kp.grown (HK.out.drewN 1) (HW.out 1).2 (impl_rc.below_grown (HW.out 1).2 (Nat.lt_of_lt_of_le HBL.out HK.out.sz))⟩
              · have q7 : decide ((i : Int) < (r0.length : Int)) = false := decide_eq_false (by omega)
                have q7n : decide (i < r0.length) = false := decide_eq_false c7
                have ei : i = r0.length := by have := HI.out; omega
                clear c7
                go_wp2
                go_meet
                case rel => exact ⟨⟨(rq HO.out)⟩, ⟨by rw [← ei]; exact (by first | exact HS.out | exact HS.out.drew | exact HS.out.drewN _ | ((with_reducible repeat (first | exact HS.out | apply impl_rc.St.drewN | apply impl_rc.St.drew)); done))⟩, ⟨(by first | exact HK.out | exact HK.out.drew | exact HK.out.drewN _ | ((with_reducible repeat (first | exact HK.out | apply impl_rc.Kp.drewN | apply impl_rc.Kp.drew)); done))⟩⟩
          case rest =>
            clear HO HS HK
            obtain ⟨HO, HS, HK⟩ := hcut
            refine impl_rc.next_ (by assumption) ?_
            obtain ⟨y3_0, f3_0, y3_1, f3_1, y3_2, f3_2, y3_3, f3_3, y3_4, f3_4, y3_5, f3_5, y3_6, f3_6, y3_7, f3_7⟩ := impl_rc.c8 HS.out.s
            dsimp only at y3_0 y3_1 y3_2 y3_3 y3_4 y3_5 y3_6 y3_7
            have ht := HT.out
            clear HT
            obtain ⟨rd2, hrd⟩ : ∃ y : Int, y = wrap64 (read + (r0.length : Int)) := ⟨_, rfl⟩
            rw [← hrd] at ht
            have e2 : IntKind.i64.wrap (read + (r0.length : Int)) = rd2 := by rw [hrd]; exact IntWalk.i64_left _
            clear hrd
            have HT := Aside0.mk ht
            clear ht
            go_upto_region 13 with (fail)
            refine impl_rc.cwp_seal (fun W_ => Kd.R (Kd.int .u8) 5 W_ w.heap.size (fun _ => True) (.slice A0 r0.length c0) r0 ∧ impl_rc.St W_ g b n ⟨st, told, win, rd2, top, fin, known, (impl_rc.dels f c read r0.length).1, (impl_rc.dels f c read r0.length).2⟩ ∧ impl_rc.Kp w W_ g b) ⟨(by (with_reducible repeat (first | apply Kd.R_alloc | apply Kd.R_drewN | apply Kd.R_drew | refine impl_rc.R_g ?_ HGL.out _ _)); exact HO.out), (by (with_reducible repeat (first | apply impl_rc.St.drewN | apply impl_rc.St.drew)); exact impl_rc.St.set (v := ⟨st, told, win, read, top, fin, known, (impl_rc.dels f c read r0.length).1, (impl_rc.dels f c read r0.length).2⟩) (by first | exact HS.out | exact HS.out.drew | exact HS.out.drewN _ | ((with_reducible repeat (first | exact HS.out | apply impl_rc.St.drewN | apply impl_rc.St.drew)); done)) 4 _ rfl rfl rfl), (by (with_reducible repeat (first | exact HK.out | apply impl_rc.Kp.set | apply impl_rc.Kp.drewN | apply impl_rc.Kp.drew)); first | done | exact HK.out)⟩ ?_
            clear HO HS HK y3_0 f3_0 y3_1 f3_1 y3_2 f3_2 y3_3 f3_3 y3_4 f3_4 y3_5 f3_5 y3_6 f3_6 y3_7 f3_7
            rintro w5 ⟨h1_, h2_, h3_⟩
            have HO := Aside0.mk h1_
            have HS := Aside0.mk h2_
            have HK := Aside0.mk h3_
            clear h1_ h2_ h3_
            obtain ⟨y4_0, f4_0, y4_1, f4_1, y4_2, f4_2, y4_3, f4_3, y4_4, f4_4, y4_5, f4_5, y4_6, f4_6, y4_7, f4_7⟩ := impl_rc.c8 HS.out.s
            dsimp only at y4_0 y4_1 y4_2 y4_3 y4_4 y4_5 y4_6 y4_7
            have ht := HT.out
            clear HT
            by_cases cA : st = 2 ∧ rd2 = fin
            · rw [if_pos cA] at ht
              obtain ⟨rfl, cB⟩ := cA
              have qB : (rd2 == fin) = true := beq_iff_eq.2 cB
              clear cB
              simp only [Option.some.injEq, Prod.mk.injEq] at ht
              obtain ⟨⟨rfl, rfl, rfl⟩, rfl⟩ := ht
              go_wp2
              go_quiet (fail)
              refine impl_rc.next_ (by assumption) ?_
              go_upto_region 15 with (fail)
              refine impl_rc.cwp_seal (fun W_ => Kd.R (Kd.int .u8) 5 W_ w.heap.size (fun _ => True) (.slice A0 r0.length c0) r0 ∧ impl_rc.St W_ g b n ⟨3, told, win, rd2, top, fin, known, (impl_rc.dels f c read r0.length).1, (impl_rc.dels f c read r0.length).2⟩ ∧ impl_rc.Kp w W_ g b) ⟨(by (with_reducible repeat (first | apply Kd.R_alloc | apply Kd.R_drewN | apply Kd.R_drew | refine impl_rc.R_g ?_ HGL.out _ _)); exact HO.out), (by (with_reducible repeat (first | apply impl_rc.St.drewN | apply impl_rc.St.drew)); exact impl_rc.St.set (v := ⟨2, told, win, rd2, top, fin, known, (impl_rc.dels f c read r0.length).1, (impl_rc.dels f c read r0.length).2⟩) (by first | exact HS.out | exact HS.out.drew | exact HS.out.drewN _ | ((with_reducible repeat (first | exact HS.out | apply impl_rc.St.drewN | apply impl_rc.St.drew)); done)) 0 _ rfl rfl rfl), (by (with_reducible repeat (first | exact HK.out | apply impl_rc.Kp.set | apply impl_rc.Kp.drewN | apply impl_rc.Kp.drew)); first | done | exact HK.out)⟩ ?_
              clear HO HS HK y4_0 f4_0 y4_1 f4_1 y4_2 f4_2 y4_3 f4_3 y4_4 f4_4 y4_5 f4_5 y4_6 f4_6 y4_7 f4_7
              rintro w6 ⟨h1_, h2_, h3_⟩
              have HO := Aside0.mk h1_
              have HS := Aside0.mk h2_
              have HK := Aside0.mk h3_
              clear h1_ h2_ h3_
              obtain ⟨y5_0, f5_0, y5_1, f5_1, y5_2, f5_2, y5_3, f5_3, y5_4, f5_4, y5_5, f5_5, y5_6, f5_6, y5_7, f5_7⟩ := impl_rc.c8 HS.out.s
              dsimp only at y5_0 y5_1 y5_2 y5_3 y5_4 y5_5 y5_6 y5_7
              go_wp2
              go_quiet (fail)
              refine impl_rc.next_ (by assumption) ?_
              go_wp2
              go_ret3
              exact ⟨_, rfl, (rq HO.out), (by first | exact HS.out | exact HS.out.drew | exact HS.out.drewN _ | ((with_reducible repeat (first | exact HS.out | apply impl_rc.St.drewN | apply impl_rc.St.drew)); done)), (by first | exact HK.out | exact HK.out.drew | exact HK.out.drewN _ | ((with_reducible repeat (first | exact HK.out | apply impl_rc.Kp.drewN | apply impl_rc.Kp.drew)); done))⟩
            · rw [if_neg cA] at ht
              by_cases cC : st = 0
              · rw [if_pos cC] at ht
                subst cC
                obtain ⟨t, h_, ht2⟩ := Option.bind_eq_some_iff.1 ht
                clear ht
                have ht := ht2
                clear ht2
                have HCN := Aside0.mk h_
                clear h_ cA
                simp only [Option.some.injEq, Prod.mk.injEq] at ht
                obtain ⟨⟨rfl, rfl, rfl⟩, rfl⟩ := ht
                go_wp2
                go_quiet (fail)
                refine impl_rc.next_ (by assumption) ?_
                go_upto_region 16 with (fail)
                go_cut [8] from 9 (fun v8 wc => Aside0 (Kd.R (Kd.int .u8) 5 wc w.heap.size (fun _ => True) (.slice A0 r0.length c0) r0) ∧ Aside0 (impl_rc.St wc g b n ⟨0, t, win, rd2, top, fin, known, (impl_rc.dels f c read r0.length).1, (impl_rc.dels f c read r0.length).2⟩) ∧ Aside0 (impl_rc.Kp w wc g b))
                case first =>
                  go_region_with (first | (go_at_call 25; refine (impl_CreditNext.calls k rd2 win told t _ HCN.out).mono ?_; rintro e w7 ⟨rfl, hd_⟩; obtain ⟨md_, hmd_⟩ := hd_; subst hmd_))
                  all_goals go_wp2
                  all_goals go_meet
                  all_goals exact ⟨⟨(by (with_reducible repeat (first | apply Kd.R_alloc | apply Kd.R_drewN | apply Kd.R_drew | refine impl_rc.R_g ?_ HGL.out _ _)); exact HO.out)⟩, ⟨(by (with_reducible repeat (first | apply impl_rc.St.drewN | apply impl_rc.St.drew)); exact impl_rc.St.set (v := ⟨0, told, win, rd2, top, fin, known, (impl_rc.dels f c read r0.length).1, (impl_rc.dels f c read r0.length).2⟩) (by first | exact HS.out | exact HS.out.drew | exact HS.out.drewN _ | ((with_reducible repeat (first | exact HS.out | apply impl_rc.St.drewN | apply impl_rc.St.drew)); done)) 1 _ rfl rfl rfl)⟩, ⟨(by (with_reducible repeat (first | exact HK.out | apply impl_rc.Kp.set | apply impl_rc.Kp.drewN | apply impl_rc.Kp.drew)); first | done | exact HK.out)⟩⟩
                case rest =>
                  clear HO HS HK
                  obtain ⟨HO, HS, HK⟩ := hcut
                  refine impl_rc.next_ (by assumption) ?_
                  obtain ⟨y6_0, f6_0, y6_1, f6_1, y6_2, f6_2, y6_3, f6_3, y6_4, f6_4, y6_5, f6_5, y6_6, f6_6, y6_7, f6_7⟩ := impl_rc.c8 HS.out.s
                  dsimp only at y6_0 y6_1 y6_2 y6_3 y6_4 y6_5 y6_6 y6_7
                  go_wp2
                  go_quiet (fail)
                  refine impl_rc.next_ (by assumption) ?_
                  go_wp2
                  go_ret3
                  exact ⟨_, rfl, (rq HO.out), (by first | exact HS.out | exact HS.out.drew | exact HS.out.drewN _ | ((with_reducible repeat (first | exact HS.out | apply impl_rc.St.drewN | apply impl_rc.St.drew)); done)), (by first | exact HK.out | exact HK.out.drew | exact HK.out.drewN _ | ((with_reducible repeat (first | exact HK.out | apply impl_rc.Kp.drewN | apply impl_rc.Kp.drew)); done))⟩
              · rw [if_neg cC] at ht
                simp only [Option.some.injEq, Prod.mk.injEq] at ht
                obtain ⟨⟨rfl, rfl, rfl⟩, rfl⟩ := ht
                have qC : (st == 0) = false := beq_eq_false_iff_ne.2 cC
                clear cC
                by_cases cD : st = 2
                · have qD : (st == 2) = true := beq_iff_eq.2 cD
                  have qE : (rd2 == fin) = false := beq_eq_false_iff_ne.2 (fun h_ => cA ⟨cD, h_⟩)
                  subst cD
                  clear cA qD
                  go_wp2
                  go_quiet (fail)
                  refine impl_rc.next_ (by assumption) ?_
                  go_upto_region 17 with (fail)
                  go_wp2
                  go_quiet (fail)
                  refine impl_rc.next_ (by assumption) ?_
                  go_wp2
                  go_ret3
                  exact ⟨_, rfl, (rq HO.out), (by first | exact HS.out | exact HS.out.drew | exact HS.out.drewN _ | ((with_reducible repeat (first | exact HS.out | apply impl_rc.St.drewN | apply impl_rc.St.drew)); done)), (by first | exact HK.out | exact HK.out.drew | exact HK.out.drewN _ | ((with_reducible repeat (first | exact HK.out | apply impl_rc.Kp.drewN | apply impl_rc.Kp.drew)); done))⟩
                · have qD : (st == 2) = false := beq_eq_false_iff_ne.2 cD
                  clear cA cD
                  go_wp2
                  go_quiet (fail)
                  refine impl_rc.next_ (by assumption) ?_
                  go_upto_region 17 with (fail)
                  by_cases cE : st = 3
                  · subst cE
                    go_wp2
                    go_quiet (fail)
                    refine impl_rc.next_ (by assumption) ?_
                    go_wp2
                    go_ret3
                    exact ⟨_, rfl, (rq HO.out), (by first | exact HS.out | exact HS.out.drew | exact HS.out.drewN _ | ((with_reducible repeat (first | exact HS.out | apply impl_rc.St.drewN | apply impl_rc.St.drew)); done)), (by first | exact HK.out | exact HK.out.drew | exact HK.out.drewN _ | ((with_reducible repeat (first | exact HK.out | apply impl_rc.Kp.drewN | apply impl_rc.Kp.drew)); done))⟩
                  · have qE : (st == 3) = false := beq_eq_false_iff_ne.2 cE
                    have qF : decide (st = 3) = false := decide_eq_false cE
                    clear cE
                    go_wp2
                    go_quiet (fail)
                    refine impl_rc.next_ (by assumption) ?_
                    go_wp2
                    go_ret3
                    exact ⟨_, by rw [qF]; rfl, (rq HO.out), (by first | exact HS.out | exact HS.out.drew | exact HS.out.drewN _ | ((with_reducible repeat (first | exact HS.out | apply impl_rc.St.drewN | apply impl_rc.St.drew)); done)), (by first | exact HK.out | exact HK.out.drew | exact HK.out.drewN _ | ((with_reducible repeat (first | exact HK.out | apply impl_rc.Kp.drewN | apply impl_rc.Kp.drew)); done))⟩
        · rw [if_neg cl] at ht; exact absurd ht (by simp)

noncomputable section
def impl_rc.puts (f : Int → Option Int) (c : Nat) (read off : Int) (data : List Int) : Nat → (Int → Option Int) × Nat
  | 0 => (f, c)
  | i + 1 => if (((impl_rc.puts f c read off data i).1 (off + (i : Int))).isSome = false) ∧ read ≤ off + (i : Int) then (Go.Proofs.Ytkmopmoglgcamaa.MapF.upd (impl_rc.puts f c read off data i).1 (off + (i : Int)) (some (data.getD i 0)), (impl_rc.puts f c read off data i).2 + 1) else impl_rc.puts f c read off data i
def impl_rc.bad (v : impl_rc.V) (en : Int) (fn : Bool) : Bool := (v.known && (decide (v.fin < en) || (fn && (en != v.fin)))) || (fn && decide (en < v.top))
def impl_rc.kept (v : impl_rc.V) (off : Int) (data : List Int) (fn : Bool) (en : Int) : impl_rc.V :=
  let p := impl_rc.puts v.f v.c v.read off data data.length
  if fn = true then (if wrap64 (v.read + (p.2 : Int)) = en then { v with top := max v.top en, f := p.1, c := p.2, fin := en, known := true, st := 2 } else { v with top := max v.top en, f := p.1, c := p.2, fin := en, known := true, st := 1 })
  else (if v.known = true ∧ wrap64 (v.read + (p.2 : Int)) = v.fin then { v with top := max v.top en, f := p.1, c := p.2, st := 2 } else { v with top := max v.top en, f := p.1, c := p.2 })
def impl_rc.data (v : impl_rc.V) (off : Int) (data : List Int) (fn : Bool) : Int × impl_rc.V :=
  if 1500 < data.length then (1, v) else if off < 0 then (1, v) else if 4611686018427387903 - (data.length : Int) < off then (1, v)
  else if v.told < off + (data.length : Int) then (8, v)
  else if impl_rc.bad v (off + (data.length : Int)) fn = true then (10, v)
  else if v.st = 0 ∨ v.st = 1 then (0, impl_rc.kept v off data fn (off + (data.length : Int))) else (0, { v with top := max v.top (off + (data.length : Int)) })
end
theorem impl_rc.St.mono {w : World} {g b n m : Nat} {v : impl_rc.V} (h : impl_rc.St w g b n v) (hm : n ≤ m) : impl_rc.St w g b m v := ⟨h.s, h.m.mono hm⟩
theorem impl_rc.puts_count (f : Int → Option Int) (c : Nat) (read off : Int) (data : List Int) : ∀ i, (impl_rc.puts f c read off data i).2 ≤ c + i
  | 0 => Nat.le_refl _
  | i + 1 => by
    have h := impl_rc.puts_count f c read off data i
    simp only [impl_rc.puts]
    by_cases h1 : (((impl_rc.puts f c read off data i).1 (off + (i : Int))).isSome = false) ∧ read ≤ off + (i : Int)
    · rw [if_pos h1]; simp only; omega
    · rw [if_neg h1]; omega
set_option maxHeartbeats 8000000 in
set_option maxRecDepth 100000 in
theorem impl_rc.data_calls (g b n : Nat) (v : impl_rc.V) (off : Int) (A0 : Option Addr) (c0 : Nat) (data : List Int) (fn : Bool) (w : World) (h : impl_rc.St w g b n v) (hr0 : Kd.C (Kd.int .u8) w A0 data.length data) (hw : ∀ x ∈ data, (Lit.int .u8 x).wf = true) (hc0 : data.length ≤ c0) (hn : n + 2000 < maxLen) (hlt : 0 < data.length → ∀ ad, A0 = some ad → ad.block ≠ g ∧ ad.block ≠ b) :
    Calls Try.prog 14 #[.pointer (some ⟨g, 0, none⟩), .int .i64 off, .slice A0 data.length c0, .bool fn] w fun e w' => e = .returned (.int .i64 (impl_rc.data v off data fn).1) ∧ impl_rc.St w' g b (n + data.length) (impl_rc.data v off data fn).2 ∧ impl_rc.Kp w w' g b := by
  obtain ⟨st, told, win, read, top, fin, known, f, c⟩ := v
  have HS := Aside0.mk h
  obtain ⟨y1_0, f1_0, y1_1, f1_1, y1_2, f1_2, y1_3, f1_3, y1_4, f1_4, y1_5, f1_5, y1_6, f1_6, y1_7, f1_7⟩ := impl_rc.c8 h.s
  dsimp only at y1_0 y1_1 y1_2 y1_3 y1_4 y1_5 y1_6 y1_7
  have HK := am (impl_rc.Kp.refl w g b)
  have HR := Aside0.mk hr0
  have HW := Aside0.mk hw
  have HC := Aside0.mk hc0
  have HN := Aside0.mk hn
  have HLT := Aside0.mk hlt
  clear h hr0 hw hc0 hn hlt
  obtain ⟨R, hR⟩ : ∃ R, R = impl_rc.data ⟨st, told, win, read, top, fin, known, f, c⟩ off data fn := ⟨_, rfl⟩
  rw [← hR]
  unfold impl_rc.data at hR
  dsimp only at hR
  by_cases c1 : 1500 < data.length
  · rw [if_pos c1] at hR
    subst hR
    have q1 : decide (1500 < (data.length : Int)) = true := decide_eq_true (by omega)
    clear c1
    go_enter Try.func14, Try.ntmps14
    go_wp2
    go_ret
    exact ⟨rfl, impl_rc.St.mono (by first | exact HS.out | exact HS.out.drew | exact HS.out.drewN _ | ((with_reducible repeat (first | exact HS.out | apply impl_rc.St.drewN | apply impl_rc.St.drew)); done)) (Nat.le_add_right _ _), (by first | exact HK.out | exact HK.out.drew | exact HK.out.drewN _ | ((with_reducible repeat (first | exact HK.out | apply impl_rc.Kp.drewN | apply impl_rc.Kp.drew)); done))⟩
  · rw [if_neg c1] at hR
    have q1 : decide (1500 < (data.length : Int)) = false := decide_eq_false (by omega)
    by_cases c2 : off < 0
    · rw [if_pos c2] at hR
      subst hR
      have q2 : decide (off < 0) = true := decide_eq_true (by omega)
      clear c2
      go_enter Try.func14, Try.ntmps14
      go_wp2
      go_ret
      exact ⟨rfl, impl_rc.St.mono (by first | exact HS.out | exact HS.out.drew | exact HS.out.drewN _ | ((with_reducible repeat (first | exact HS.out | apply impl_rc.St.drewN | apply impl_rc.St.drew)); done)) (Nat.le_add_right _ _), (by first | exact HK.out | exact HK.out.drew | exact HK.out.drewN _ | ((with_reducible repeat (first | exact HK.out | apply impl_rc.Kp.drewN | apply impl_rc.Kp.drew)); done))⟩
    · rw [if_neg c2] at hR
      have q2 : decide (off < 0) = false := decide_eq_false (by omega)
      have e0 : IntKind.i64.wrap (4611686018427387903 - (data.length : Int)) = 4611686018427387903 - (data.length : Int) := IntWalk.i64_in _ (by omega)
      by_cases c3 : 4611686018427387903 - (data.length : Int) < off
      · rw [if_pos c3] at hR
        subst hR
        have q3 : decide (4611686018427387903 - (data.length : Int) < off) = true := decide_eq_true (by omega)
        clear c3
        go_enter Try.func14, Try.ntmps14
        go_wp2
        go_ret
        exact ⟨rfl, impl_rc.St.mono (by first | exact HS.out | exact HS.out.drew | exact HS.out.drewN _ | ((with_reducible repeat (first | exact HS.out | apply impl_rc.St.drewN | apply impl_rc.St.drew)); done)) (Nat.le_add_right _ _), (by first | exact HK.out | exact HK.out.drew | exact HK.out.drewN _ | ((with_reducible repeat (first | exact HK.out | apply impl_rc.Kp.drewN | apply impl_rc.Kp.drew)); done))⟩
      · rw [if_neg c3] at hR
        have q3 : decide (4611686018427387903 - (data.length : Int) < off) = false := decide_eq_false (by omega)
        obtain ⟨en, hen⟩ : ∃ en : Int, en = off + (data.length : Int) := ⟨_, rfl⟩
        rw [← hen] at hR
        have e1 : IntKind.i64.wrap (off + (data.length : Int)) = en := by rw [hen]; exact IntWalk.i64_in _ (by omega)
        have HEN := am (show en = off + (data.length : Int) ∧ 0 ≤ off ∧ en ≤ 4611686018427387903 ∧ data.length ≤ 1500 from ⟨hen, by omega, by omega, by omega⟩)
        clear hen c1 c2 c3
        by_cases c4 : told < en
        · rw [if_pos c4] at hR
          subst hR
          have q4 : decide (told < en) = true := decide_eq_true (by omega)
          clear c4
          go_enter Try.func14, Try.ntmps14
          go_wp2
          go_ret
          exact ⟨rfl, impl_rc.St.mono (by first | exact HS.out | exact HS.out.drew | exact HS.out.drewN _ | ((with_reducible repeat (first | exact HS.out | apply impl_rc.St.drewN | apply impl_rc.St.drew)); done)) (Nat.le_add_right _ _), (by first | exact HK.out | exact HK.out.drew | exact HK.out.drewN _ | ((with_reducible repeat (first | exact HK.out | apply impl_rc.Kp.drewN | apply impl_rc.Kp.drew)); done))⟩
        · rw [if_neg c4] at hR
          have q4 : decide (told < en) = false := decide_eq_false (by omega)
          clear c4
          have HRR := Aside0.mk hR
          clear hR
          go_enter Try.func14, Try.ntmps14
          go_upto_region 6 with (fail)
          go_cut [71] from 72 (fun v71 wc => v71 = .bool (impl_rc.bad ⟨st, told, win, read, top, fin, known, f, c⟩ en fn) ∧ Aside0 (impl_rc.St wc g b n ⟨st, told, win, read, top, fin, known, f, c⟩) ∧ Aside0 (impl_rc.Kp w wc g b))
          case first =>
            clear HRR q4 q3 q2 q1
            obtain ⟨d1, hd1⟩ : ∃ d, d = decide (fin < en) := ⟨_, rfl⟩
            obtain ⟨d2, hd2⟩ : ∃ d, d = (en != fin) := ⟨_, rfl⟩
            obtain ⟨d3, hd3⟩ : ∃ d, d = decide (en < top) := ⟨_, rfl⟩
            have hbad : impl_rc.bad ⟨st, told, win, read, top, fin, known, f, c⟩ en fn = ((known && (d1 || (fn && d2))) || (fn && d3)) := by rw [hd1, hd2, hd3]; rfl
            have HBAD := Aside0.mk hbad
            clear hbad
            have e3 := hd1.symm
            have e4 := hd2.symm
            have e5 := hd3.symm
            clear hd1 hd2 hd3
            cases known <;> cases fn <;> cases d1 <;> cases d2 <;> cases d3
            all_goals go_wp2
            all_goals go_meet
            all_goals exact ⟨by rw [HBAD.out]; rfl, ⟨(by first | exact HS.out | exact HS.out.drew | exact HS.out.drewN _ | ((with_reducible repeat (first | exact HS.out | apply impl_rc.St.drewN | apply impl_rc.St.drew)); done))⟩, ⟨(by first | exact HK.out | exact HK.out.drew | exact HK.out.drewN _ | ((with_reducible repeat (first | exact HK.out | apply impl_rc.Kp.drewN | apply impl_rc.Kp.drew)); done))⟩⟩
          case rest =>
            clear HS HK y1_0 f1_0 y1_1 f1_1 y1_2 f1_2 y1_3 f1_3 y1_4 f1_4 y1_5 f1_5 y1_6 f1_6 y1_7 f1_7
            obtain ⟨rfl, HS, HK⟩ := hcut
            refine impl_rc.next_ (by assumption) ?_
            obtain ⟨y2_0, f2_0, y2_1, f2_1, y2_2, f2_2, y2_3, f2_3, y2_4, f2_4, y2_5, f2_5, y2_6, f2_6, y2_7, f2_7⟩ := impl_rc.c8 HS.out.s
            dsimp only at y2_0 y2_1 y2_2 y2_3 y2_4 y2_5 y2_6 y2_7
            have hR := HRR.out
            clear HRR
            cases hbd : impl_rc.bad ⟨st, told, win, read, top, fin, known, f, c⟩ en fn with
            | true =>
              rw [if_pos hbd] at hR
              subst hR
              go_wp2
              go_ret
              exact ⟨rfl, impl_rc.St.mono (by first | exact HS.out | exact HS.out.drew | exact HS.out.drewN _ | ((with_reducible repeat (first | exact HS.out | apply impl_rc.St.drewN | apply impl_rc.St.drew)); done)) (Nat.le_add_right _ _), (by first | exact HK.out | exact HK.out.drew | exact HK.out.drewN _ | ((with_reducible repeat (first | exact HK.out | apply impl_rc.Kp.drewN | apply impl_rc.Kp.drew)); done))⟩
            | false =>
              rw [if_neg (by rw [hbd]; simp)] at hR
              clear hbd
              have HRR := Aside0.mk hR
              clear hR
              go_upto_region 9 with (fail)
              have e6 : (if top < en then en else top) = max top en := by by_cases h_ : top < en <;> simp [h_] <;> omega
              rw [e6]
              clear e6
              refine impl_rc.cwp_seal (fun W_ => impl_rc.St W_ g b n ⟨st, told, win, read, max top en, fin, known, f, c⟩ ∧ impl_rc.Kp w W_ g b) ⟨(by (with_reducible repeat (first | apply impl_rc.St.drewN | apply impl_rc.St.drew)); exact impl_rc.St.set (v := ⟨st, told, win, read, top, fin, known, f, c⟩) (by first | exact HS.out | exact HS.out.drew | exact HS.out.drewN _ | ((with_reducible repeat (first | exact HS.out | apply impl_rc.St.drewN | apply impl_rc.St.drew)); done)) 5 _ rfl rfl rfl), (by (with_reducible repeat (first | exact HK.out | apply impl_rc.Kp.set | apply impl_rc.Kp.drewN | apply impl_rc.Kp.drew)); first | done | exact HK.out)⟩ ?_
              clear HS HK y2_0 f2_0 y2_1 f2_1 y2_2 f2_2 y2_3 f2_3 y2_4 f2_4 y2_5 f2_5 y2_6 f2_6 y2_7 f2_7
              rintro w5 ⟨h2_, h3_⟩
              have HS := Aside0.mk h2_
              have HK := Aside0.mk h3_
              clear h2_ h3_
              obtain ⟨y3_0, f3_0, y3_1, f3_1, y3_2, f3_2, y3_3, f3_3, y3_4, f3_4, y3_5, f3_5, y3_6, f3_6, y3_7, f3_7⟩ := impl_rc.c8 HS.out.s
              dsimp only at y3_0 y3_1 y3_2 y3_3 y3_4 y3_5 y3_6 y3_7
              have hR := HRR.out
              clear HRR
              by_cases cS : st = 0 ∨ st = 1
              · rw [if_pos cS] at hR
                have HRR := Aside0.mk hR
                have HCS := Aside0.mk cS
                clear hR
                clear cS
                go_cut [92] from 93 (fun v92 wc => v92 = .bool false ∧ Aside0 (impl_rc.St wc g b n ⟨st, told, win, read, max top en, fin, known, f, c⟩) ∧ Aside0 (impl_rc.Kp w wc g b))
                case first =>
                  rcases HCS.out with h0_ | h0_
                  · have q8 : (st != 0) = false := by rw [h0_]; rfl
                    clear h0_ HCS HRR
                    go_wp2
                    go_meet
                    case rel => exact ⟨rfl, ⟨(by first | exact HS.out | exact HS.out.drew | exact HS.out.drewN _ | ((with_reducible repeat (first | exact HS.out | apply impl_rc.St.drewN | apply impl_rc.St.drew)); done))⟩, ⟨(by first | exact HK.out | exact HK.out.drew | exact HK.out.drewN _ | ((with_reducible repeat (first | exact HK.out | apply impl_rc.Kp.drewN | apply impl_rc.Kp.drew)); done))⟩⟩
                  · have q8 : (st != 0) = true := by rw [h0_]; rfl
                    have q9 : (st != 1) = false := by rw [h0_]; rfl
                    clear h0_ HCS HRR
                    go_wp2
                    go_meet
                    case rel => exact ⟨rfl, ⟨(by first | exact HS.out | exact HS.out.drew | exact HS.out.drewN _ | ((with_reducible repeat (first | exact HS.out | apply impl_rc.St.drewN | apply impl_rc.St.drew)); done))⟩, ⟨(by first | exact HK.out | exact HK.out.drew | exact HK.out.drewN _ | ((with_reducible repeat (first | exact HK.out | apply impl_rc.Kp.drewN | apply impl_rc.Kp.drew)); done))⟩⟩
                case rest =>
                  clear HS HK y3_0 f3_0 y3_1 f3_1 y3_2 f3_2 y3_3 f3_3 y3_4 f3_4 y3_5 f3_5 y3_6 f3_6 y3_7 f3_7
                  obtain ⟨rfl, HS, HK⟩ := hcut
                  refine impl_rc.next_ (by assumption) ?_
                  go_upto_block 0 with (fail)
                  go_cut [10, 11, 12, 13] from 14 (fun v10 v11 v12 v13 wc => Aside0 (impl_rc.St wc g b (n + data.length) ⟨st, told, win, read, max top en, fin, known, (impl_rc.puts f c read off data data.length).1, (impl_rc.puts f c read off data data.length).2⟩) ∧ Aside0 (impl_rc.Kp w wc g b))
                  case first =>
                    clear HRR HCS
                    go_wp2
                    go_loopg [10, 11, 12, 13, 95] data.length (fun kq v10 v11 v12 v13 v95 wr => ∃ i : Nat, v95 = .int .i64 (i : Int) ∧ Aside0 (i + kq = data.length) ∧ Aside0 (impl_rc.St wr g b (n + i) ⟨st, told, win, read, max top en, fin, known, (impl_rc.puts f c read off data i).1, (impl_rc.puts f c read off data i).2⟩) ∧ Aside0 (impl_rc.Kp w wr g b))
                    case atStart => exact ⟨0, rfl, ⟨Nat.zero_add _⟩, ⟨(by first | exact HS.out | exact HS.out.drew | exact HS.out.drewN _ | ((with_reducible repeat (first | exact HS.out | apply impl_rc.St.drewN | apply impl_rc.St.drew)); done))⟩, ⟨(by first | exact HK.out | exact HK.out.drew | exact HK.out.drewN _ | ((with_reducible repeat (first | exact HK.out | apply impl_rc.Kp.drewN | apply impl_rc.Kp.drew)); done))⟩⟩
                    case round =>
                      clear HS HK
                      obtain ⟨i, rfl, HI, HS, HK⟩ := hrel
                      obtain ⟨y4_0, f4_0, y4_1, f4_1, y4_2, f4_2, y4_3, f4_3, y4_4, f4_4, y4_5, f4_5, y4_6, f4_6, y4_7, f4_7⟩ := impl_rc.c8 HS.out.s
                      dsimp only at y4_0 y4_1 y4_2 y4_3 y4_4 y4_5 y4_6 y4_7
                      by_cases c7 : i < data.length
                      · have q7 : decide ((i : Int) < (data.length : Int)) = true := decide_eq_true (by omega)
                        have q7n : decide (i < data.length) = true := decide_eq_true c7
                        cases gk with
                        | zero => exact absurd HI.out (by omega)
                        | succ k1 =>
                          obtain ⟨ad, ea, hx0⟩ := Kd.at_int HR.out (i : Int) (by omega) (by omega)
                          have hbl := World.block_lt_of_cell? w _ hx0
                          have hne := HLT.out (by omega) ad ea
                          have hab : (ad.add (i : Int).toNat).block = ad.block := by unfold Addr.add; split <;> rfl
                          rw [hab] at hbl
                          have hx : wr.cell? (ad.add (i : Int).toNat) = some (.int .u8 (rd data (i : Int))) := (World.cell?_of_block (by rw [hab]; exact HK.out.kb _ hbl hne.1 hne.2)).trans hx0
                          have hgd : (Lit.int .u8 (rd data (i : Int))).wf = true := HW.out _ (by show data.getD (i : Int).toNat 0 ∈ data; rw [Int.toNat_natCast, List.getD_eq_getElem?_getD, List.getElem?_eq_getElem c7]; exact List.getElem_mem c7)
                          have HGD := Aside0.mk hgd
                          subst ea
                          clear hx0 hbl hne hab hgd
                          obtain ⟨xb, hxb⟩ : ∃ x : Int, x = rd data (i : Int) := ⟨_, rfl⟩
                          rw [← hxb] at hx
                          have hx2 : wr.cell? (ad.add i) = some (.int .u8 xb) := hx
                          have HXB := Aside0.mk hxb
                          clear hxb
                          obtain ⟨yk, hyk⟩ : ∃ y : Int, y = off + (i : Int) := ⟨_, rfl⟩
                          have ek : IntKind.i64.wrap (off + (i : Int)) = yk := by rw [hyk]; exact IntWalk.i64_in _ (by have := HEN.out; omega)
                          have gk_ : (Lit.int .i64 yk).wf = true := by rw [hyk]; have h_ := wrap64_wf (off + (i : Int)); rw [IntWalk.wrap64_in _ (by have := HEN.out; omega)] at h_; exact h_
                          have GK := Aside0.mk gk_
                          have kl := impl_rc.look HS.out yk gk_
                          clear gk_
                          have c7i : (i : Int) < (data.length : Int) := by omega
                          have c7z : (0 : Int) ≤ (i : Int) := by omega
                          have cs_ : (impl_rc.puts f c read off data (i + 1)) = (if (((impl_rc.puts f c read off data i).1 yk).isSome = false) ∧ read ≤ yk then (Go.Proofs.Ytkmopmoglgcamaa.MapF.upd (impl_rc.puts f c read off data i).1 yk (some xb), (impl_rc.puts f c read off data i).2 + 1) else impl_rc.puts f c read off data i) := by rw [hyk, HXB.out]; rfl
                          have HCSS := Aside0.mk cs_
                          clear cs_ hyk
                          dsimp only at kl
                          obtain ⟨ok, hok⟩ : ∃ o : Bool, o = ((impl_rc.puts f c read off data i).1 yk).isSome := ⟨_, rfl⟩
                          rw [← hok] at kl
                          have HOK := Aside0.mk hok
                          clear hok
                          have kl0 : (Instr.lookup 54 (.map (some b)) (.int .i64 yk) true).run Try.prog wr = .ok (.tuple #[.int .u8 (((impl_rc.puts f c read off data i).1 yk).getD 0), .bool ok]) wr := kl 0
                          clear kl
                          cases ok with
                          | true =>
                            go_wp2
                            go_roundg k1
                            case measure => have := HI.out; omega
                            case rel =>
                              have ec_ : impl_rc.puts f c read off data (i + 1) = impl_rc.puts f c read off data i := by rw [HCSS.out, if_neg (by rw [← HOK.out]; simp)]
                              refine ⟨i + 1, (by first | (rw [IntWalk.wrap64_in ((i : Int) + 1) (by have := HEN.out; have := HI.out; omega), show ((i : Int) + 1) = ((i + 1 : Nat) : Int) by omega]; done) | (rw [show ((i : Int) + 1) = ((i + 1 : Nat) : Int) by omega]; done)), ⟨by have := HI.out; omega⟩, ⟨?_⟩, ⟨(by first | exact HK.out | exact HK.out.drew | exact HK.out.drewN _ | ((with_reducible repeat (first | exact HK.out | apply impl_rc.Kp.drewN | apply impl_rc.Kp.drew)); done))⟩⟩
                              rw [ec_]
                              exact impl_rc.St.mono (by first | exact HS.out | exact HS.out.drew | exact HS.out.drewN _ | ((with_reducible repeat (first | exact HS.out | apply impl_rc.St.drewN | apply impl_rc.St.drew)); done)) (by omega)
                          | false =>
                            by_cases cr : read ≤ yk
                            · have qr : decide (read ≤ yk) = true := decide_eq_true cr
                              have HCR := Aside0.mk cr
                              clear cr
                              go_wp2_with (first | (at_mapUpdate; refine Go.Proofs.Ytkmopmoglgcamaa.MapF.wp_put _ rfl (.tmp 126) (.tmp 129) (.tmp 130) 54 rfl Try.underlying54 (show impl_rc.St _ g b (n + i) ⟨st, told, win, read, max top en, fin, known, (impl_rc.puts f c read off data i).1, (impl_rc.puts f c read off data i).2⟩ from (by first | exact HS.out | exact HS.out.drew | exact HS.out.drewN _ | ((with_reducible repeat (first | exact HS.out | apply impl_rc.St.drewN | apply impl_rc.St.drew)); done))).m (by have := HN.out; have := HEN.out; have := HI.out; omega) rfl yk xb rfl rfl GK.out (by rw [HXB.out]; exact HGD.out) ?_; intro w3 hm_ hg_; have s_ := Aside0.mk hm_; have g_ := Aside0.mk hg_; clear hm_ hg_))
                              go_roundg k1
                              case measure => have := HI.out; omega
                              case rel =>
                                have ec_ : impl_rc.puts f c read off data (i + 1) = (Go.Proofs.Ytkmopmoglgcamaa.MapF.upd (impl_rc.puts f c read off data i).1 yk (some xb), (impl_rc.puts f c read off data i).2 + 1) := by rw [HCSS.out, if_pos ⟨HOK.out.symm, HCR.out⟩]
                                have hm_ := s_.out
                                try dsimp only at hm_
                                rw [if_neg (by rw [← HOK.out]; simp)] at hm_
                                have hs0 := (show impl_rc.St _ g b (n + i) ⟨st, told, win, read, max top en, fin, known, (impl_rc.puts f c read off data i).1, (impl_rc.puts f c read off data i).2⟩ from HS.out)
                                refine ⟨i + 1, (by first | (rw [IntWalk.wrap64_in ((i : Int) + 1) (by have := HEN.out; have := HI.out; omega), show ((i : Int) + 1) = ((i + 1 : Nat) : Int) by omega]; done) | (rw [show ((i : Int) + 1) = ((i + 1 : Nat) : Int) by omega]; done)), ⟨by have := HI.out; omega⟩, ⟨?_⟩, ⟨impl_rc.Kp.grown HK.out g_.out (impl_rc.below_grown g_.out hs0.m.lt)⟩⟩
                                rw [ec_]
                                exact ⟨(g_.out.block g (blk_lt hs0.s) (by simpa using hs0.ne.symm)).trans hs0.s, hm_⟩
                            · have qr : decide (read ≤ yk) = false := decide_eq_false cr
                              have HCR := Aside0.mk cr
                              clear cr
                              go_wp2
                              go_roundg k1
                              case measure => have := HI.out; omega
                              case rel =>
                                have ec_ : impl_rc.puts f c read off data (i + 1) = impl_rc.puts f c read off data i := by rw [HCSS.out, if_neg (fun h_ => by have h1_ := HCR.out; have h2_ := h_.2; omega)]
                                refine ⟨i + 1, (by first | (rw [IntWalk.wrap64_in ((i : Int) + 1) (by have := HEN.out; have := HI.out; omega), show ((i : Int) + 1) = ((i + 1 : Nat) : Int) by omega]; done) | (rw [show ((i : Int) + 1) = ((i + 1 : Nat) : Int) by omega]; done)), ⟨by have := HI.out; omega⟩, ⟨?_⟩, ⟨(by first | exact HK.out | exact HK.out.drew | exact HK.out.drewN _ | ((with_reducible repeat (first | exact HK.out | apply impl_rc.Kp.drewN | apply impl_rc.Kp.drew)); done))⟩⟩
                                rw [ec_]
                                exact impl_rc.St.mono (by first | exact HS.out | exact HS.out.drew | exact HS.out.drewN _ | ((with_reducible repeat (first | exact HS.out | apply impl_rc.St.drewN | apply impl_rc.St.drew)); done)) (by omega)
                      · have q7 : decide ((i : Int) < (data.length : Int)) = false := decide_eq_false (by omega)
                        have q7n : decide (i < data.length) = false := decide_eq_false c7
                        have ei : i = data.length := by have := HI.out; omega
                        clear c7
                        go_wp2
                        go_meet
                        case rel => exact ⟨⟨by rw [← ei]; exact (by first | exact HS.out | exact HS.out.drew | exact HS.out.drewN _ | ((with_reducible repeat (first | exact HS.out | apply impl_rc.St.drewN | apply impl_rc.St.drew)); done))⟩, ⟨(by first | exact HK.out | exact HK.out.drew | exact HK.out.drewN _ | ((with_reducible repeat (first | exact HK.out | apply impl_rc.Kp.drewN | apply impl_rc.Kp.drew)); done))⟩⟩
                  case rest =>
                    clear HS HK
                    obtain ⟨HS, HK⟩ := hcut
                    refine impl_rc.next_ (by assumption) ?_
                    obtain ⟨y5_0, f5_0, y5_1, f5_1, y5_2, f5_2, y5_3, f5_3, y5_4, f5_4, y5_5, f5_5, y5_6, f5_6, y5_7, f5_7⟩ := impl_rc.c8 HS.out.s
                    dsimp only at y5_0 y5_1 y5_2 y5_3 y5_4 y5_5 y5_6 y5_7
                    have hR := HRR.out
                    clear HRR HCS
                    unfold impl_rc.kept at hR
                    dsimp only at hR
                    generalize impl_rc.puts f c read off data data.length = p at hR HS
                    obtain ⟨f2, cn⟩ := p
                    dsimp only at hR HS
                    cases fn with
                    | true =>
                      rw [if_pos rfl] at hR
                      have HRR := Aside0.mk hR
                      clear hR
                      go_upto_region 20 with (fail)
                      refine impl_rc.cwp_seal (fun W_ => impl_rc.St W_ g b (n + data.length) ⟨1, told, win, read, max top en, en, true, f2, cn⟩ ∧ impl_rc.Kp w W_ g b) ⟨(by (with_reducible repeat (first | apply impl_rc.St.drewN | apply impl_rc.St.drew)); refine impl_rc.St.set (v := ⟨st, told, win, read, max top en, en, true, f2, cn⟩) ?_ 0 _ rfl rfl rfl; (with_reducible repeat (first | apply impl_rc.St.drewN | apply impl_rc.St.drew)); refine impl_rc.St.set (v := ⟨st, told, win, read, max top en, en, known, f2, cn⟩) ?_ 7 _ rfl rfl rfl; (with_reducible repeat (first | apply impl_rc.St.drewN | apply impl_rc.St.drew)); refine impl_rc.St.set (v := ⟨st, told, win, read, max top en, fin, known, f2, cn⟩) ?_ 6 _ rfl rfl rfl; exact (by first | exact HS.out | exact HS.out.drew | exact HS.out.drewN _ | ((with_reducible repeat (first | exact HS.out | apply impl_rc.St.drewN | apply impl_rc.St.drew)); done))), (by (with_reducible repeat (first | exact HK.out | apply impl_rc.Kp.set | apply impl_rc.Kp.drewN | apply impl_rc.Kp.drew)); first | done | exact HK.out)⟩ ?_
                      clear HS HK y5_0 f5_0 y5_1 f5_1 y5_2 f5_2 y5_3 f5_3 y5_4 f5_4 y5_5 f5_5 y5_6 f5_6 y5_7 f5_7
                      rintro w6 ⟨h2_, h3_⟩
                      have HS := Aside0.mk h2_
                      have HK := Aside0.mk h3_
                      clear h2_ h3_
                      obtain ⟨y6_0, f6_0, y6_1, f6_1, y6_2, f6_2, y6_3, f6_3, y6_4, f6_4, y6_5, f6_5, y6_6, f6_6, y6_7, f6_7⟩ := impl_rc.c8 HS.out.s
                      dsimp only at y6_0 y6_1 y6_2 y6_3 y6_4 y6_5 y6_6 y6_7
                      have hR := HRR.out
                      clear HRR
                      by_cases cE : wrap64 (read + (cn : Int)) = en
                      · have qE : (wrap64 (read + (cn : Int)) == en) = true := beq_iff_eq.2 cE
                        rw [if_pos cE] at hR
                        subst hR
                        clear cE
                        go_upto_region 22 with (first | (go_at_call 22; refine (impl_rc.complete_calls g b (n + data.length) ⟨1, told, win, read, max top en, en, true, f2, cn⟩ _ (by first | exact HS.out | exact HS.out.drew | exact HS.out.drewN _ | ((with_reducible repeat (first | exact HS.out | apply impl_rc.St.drewN | apply impl_rc.St.drew)); done))).mono ?_; rintro e w7_ ⟨rfl, mc_, hmc_⟩; subst hmc_))
                        refine impl_rc.cwp_seal (fun W_ => impl_rc.St W_ g b (n + data.length) ⟨2, told, win, read, max top en, en, true, f2, cn⟩ ∧ impl_rc.Kp w W_ g b) ⟨(by (with_reducible repeat (first | apply impl_rc.St.drewN | apply impl_rc.St.drew)); refine impl_rc.St.set (v := ⟨1, told, win, read, max top en, en, true, f2, cn⟩) ?_ 0 _ rfl rfl rfl; exact (by first | exact HS.out | exact HS.out.drew | exact HS.out.drewN _ | ((with_reducible repeat (first | exact HS.out | apply impl_rc.St.drewN | apply impl_rc.St.drew)); done))), (by (with_reducible repeat (first | exact HK.out | apply impl_rc.Kp.set | apply impl_rc.Kp.drewN | apply impl_rc.Kp.drew)); first | done | exact HK.out)⟩ ?_
                        clear HS HK y6_0 f6_0 y6_1 f6_1 y6_2 f6_2 y6_3 f6_3 y6_4 f6_4 y6_5 f6_5 y6_6 f6_6 y6_7 f6_7
                        rintro w8 ⟨h2_, h3_⟩
                        have HS := Aside0.mk h2_
                        have HK := Aside0.mk h3_
                        clear h2_ h3_
                        obtain ⟨y7_0, f7_0, y7_1, f7_1, y7_2, f7_2, y7_3, f7_3, y7_4, f7_4, y7_5, f7_5, y7_6, f7_6, y7_7, f7_7⟩ := impl_rc.c8 HS.out.s
                        dsimp only at y7_0 y7_1 y7_2 y7_3 y7_4 y7_5 y7_6 y7_7
                        go_wp2
                        go_ret
                        exact ⟨rfl, (by first | exact HS.out | exact HS.out.drew | exact HS.out.drewN _ | ((with_reducible repeat (first | exact HS.out | apply impl_rc.St.drewN | apply impl_rc.St.drew)); done)), (by first | exact HK.out | exact HK.out.drew | exact HK.out.drewN _ | ((with_reducible repeat (first | exact HK.out | apply impl_rc.Kp.drewN | apply impl_rc.Kp.drew)); done))⟩
                      · have qE : (wrap64 (read + (cn : Int)) == en) = false := beq_eq_false_iff_ne.2 cE
                        rw [if_neg cE] at hR
                        subst hR
                        clear cE
                        go_wp2_with (first | (go_at_call 22; refine (impl_rc.complete_calls g b (n + data.length) ⟨1, told, win, read, max top en, en, true, f2, cn⟩ _ (by first | exact HS.out | exact HS.out.drew | exact HS.out.drewN _ | ((with_reducible repeat (first | exact HS.out | apply impl_rc.St.drewN | apply impl_rc.St.drew)); done))).mono ?_; rintro e w7_ ⟨rfl, mc_, hmc_⟩; subst hmc_))
                        go_ret
                        exact ⟨rfl, (by first | exact HS.out | exact HS.out.drew | exact HS.out.drewN _ | ((with_reducible repeat (first | exact HS.out | apply impl_rc.St.drewN | apply impl_rc.St.drew)); done)), (by first | exact HK.out | exact HK.out.drew | exact HK.out.drewN _ | ((with_reducible repeat (first | exact HK.out | apply impl_rc.Kp.drewN | apply impl_rc.Kp.drew)); done))⟩
                    | false =>
                      rw [if_neg (by simp)] at hR
                      by_cases cE : known = true ∧ wrap64 (read + (cn : Int)) = fin
                      · rw [if_pos cE] at hR
                        subst hR
                        obtain ⟨rfl, cF⟩ := cE
                        have qE : (wrap64 (read + (cn : Int)) == fin) = true := beq_iff_eq.2 cF
                        clear cF
                        go_upto_region 22 with (first | (go_at_call 22; refine (impl_rc.complete_calls g b (n + data.length) ⟨st, told, win, read, max top en, fin, true, f2, cn⟩ _ (by first | exact HS.out | exact HS.out.drew | exact HS.out.drewN _ | ((with_reducible repeat (first | exact HS.out | apply impl_rc.St.drewN | apply impl_rc.St.drew)); done))).mono ?_; rintro e w7_ ⟨rfl, mc_, hmc_⟩; subst hmc_))
                        refine impl_rc.cwp_seal (fun W_ => impl_rc.St W_ g b (n + data.length) ⟨2, told, win, read, max top en, fin, true, f2, cn⟩ ∧ impl_rc.Kp w W_ g b) ⟨(by (with_reducible repeat (first | apply impl_rc.St.drewN | apply impl_rc.St.drew)); refine impl_rc.St.set (v := ⟨st, told, win, read, max top en, fin, true, f2, cn⟩) ?_ 0 _ rfl rfl rfl; exact (by first | exact HS.out | exact HS.out.drew | exact HS.out.drewN _ | ((with_reducible repeat (first | exact HS.out | apply impl_rc.St.drewN | apply impl_rc.St.drew)); done))), (by (with_reducible repeat (first | exact HK.out | apply impl_rc.Kp.set | apply impl_rc.Kp.drewN | apply impl_rc.Kp.drew)); first | done | exact HK.out)⟩ ?_
                        clear HS HK y5_0 f5_0 y5_1 f5_1 y5_2 f5_2 y5_3 f5_3 y5_4 f5_4 y5_5 f5_5 y5_6 f5_6 y5_7 f5_7
                        rintro w8 ⟨h2_, h3_⟩
                        have HS := Aside0.mk h2_
                        have HK := Aside0.mk h3_
                        clear h2_ h3_
                        obtain ⟨y8_0, f8_0, y8_1, f8_1, y8_2, f8_2, y8_3, f8_3, y8_4, f8_4, y8_5, f8_5, y8_6, f8_6, y8_7, f8_7⟩ := impl_rc.c8 HS.out.s
                        dsimp only at y8_0 y8_1 y8_2 y8_3 y8_4 y8_5 y8_6 y8_7
                        go_wp2
                        go_ret
                        exact ⟨rfl, (by first | exact HS.out | exact HS.out.drew | exact HS.out.drewN _ | ((with_reducible repeat (first | exact HS.out | apply impl_rc.St.drewN | apply impl_rc.St.drew)); done)), (by first | exact HK.out | exact HK.out.drew | exact HK.out.drewN _ | ((with_reducible repeat (first | exact HK.out | apply impl_rc.Kp.drewN | apply impl_rc.Kp.drew)); done))⟩
                      · rw [if_neg cE] at hR
                        subst hR
                        have qE : (known && (wrap64 (read + (cn : Int)) == fin)) = false := by cases known with
                          | false => rfl
                          | true => simpa using (fun h_ => cE ⟨rfl, h_⟩)
                        clear cE
                        go_wp2_with (first | (go_at_call 22; refine (impl_rc.complete_calls g b (n + data.length) ⟨st, told, win, read, max top en, fin, known, f2, cn⟩ _ (by first | exact HS.out | exact HS.out.drew | exact HS.out.drewN _ | ((with_reducible repeat (first | exact HS.out | apply impl_rc.St.drewN | apply impl_rc.St.drew)); done))).mono ?_; rintro e w7_ ⟨rfl, mc_, hmc_⟩; subst hmc_))
                        go_ret
                        exact ⟨rfl, (by first | exact HS.out | exact HS.out.drew | exact HS.out.drewN _ | ((with_reducible repeat (first | exact HS.out | apply impl_rc.St.drewN | apply impl_rc.St.drew)); done)), (by first | exact HK.out | exact HK.out.drew | exact HK.out.drewN _ | ((with_reducible repeat (first | exact HK.out | apply impl_rc.Kp.drewN | apply impl_rc.Kp.drew)); done))⟩
              · rw [if_neg cS] at hR
                subst hR
                have q8 : (st != 0) = true := bne_iff_ne.2 (fun h_ => cS (.inl h_))
                have q9 : (st != 1) = true := bne_iff_ne.2 (fun h_ => cS (.inr h_))
                clear cS
                go_wp2
                go_ret
                exact ⟨rfl, impl_rc.St.mono (by first | exact HS.out | exact HS.out.drew | exact HS.out.drewN _ | ((with_reducible repeat (first | exact HS.out | apply impl_rc.St.drewN | apply impl_rc.St.drew)); done)) (Nat.le_add_right _ _), (by first | exact HK.out | exact HK.out.drew | exact HK.out.drewN _ | ((with_reducible repeat (first | exact HK.out | apply impl_rc.Kp.drewN | apply impl_rc.Kp.drew)); done))⟩

set_option maxHeartbeats 8000000 in
set_option maxRecDepth 100000 in
theorem impl_rc.new_calls (win : Int) (w : World) :
    Calls Try.prog 13 #[.int .i64 win] w fun e w' => ∃ g b, e = .returned (.pointer (some ⟨g, 0, none⟩)) ∧ impl_rc.St w' g b 0 ⟨0, win, win, 0, 0, 0, false, fun _ => none, 0⟩ ∧ Below w.heap.size w w' ∧ w.heap.size ≤ g ∧ w.heap.size ≤ b := by
  have hmm := @run_makeMap Try.prog
  go_enter Try.func13, Try.ntmps13
  go_wp2_with (first | ((with_reducible refine gate_dst (N := 7) rfl ?_); refine box_event ?hg (N := 7) ?hd (cs := #[.int .i64 0, .int .i64 win, .int .i64 win, .map (some w.heap.size), .int .i64 0, .int .i64 0, .int .i64 0, .bool false]) (t := 56) ?hr ?_; (case hd => rfl); (case hg => rfl); (case hr => first | (go_simp; done) | (go_simp; rfl)); intro g hg w1 hbox hb; have HX := Aside0.mk hbox; have HBB := Aside0.mk hb; have HGG := Aside0.mk hg; clear hbox hb hg))
  go_ret
  have hsz : w.heap.size ≤ (w.alloc (.map #[] 0)).heap.size := by show w.heap.size ≤ (w.heap.push _).size; rw [Array.size_push]; omega
  exact ⟨g, w.heap.size, rfl, ⟨HX.out, (Go.Proofs.Ytkmopmoglgcamaa.MapF.MapF.made w).below HBB.out⟩, ((Below.refl w.heap.size w).alloc (Nat.le_refl _) _).trans (HBB.out.mono hsz), by rw [HGG.out]; exact hsz, Nat.le_refl _⟩
theorem impl_rc.clr {w : World} {g b n : Nat} {v : impl_rc.V} (h : impl_rc.St w g b n v) :
    ∃ W' : Nat → World, ∀ m, (Builtin.clear_ #[54] 0 #[.map (some b)]).run Try.prog (w.drewN m) = .ok (.tuple #[]) (W' m) ∧
      impl_rc.St (W' m) g b n { v with f := fun _ => none, c := 0 } ∧ (w.drewN m).grownBy (W' m) (some b) := by
  have hd : ∀ m, ∃ W', (Builtin.clear_ #[54] 0 #[.map (some b)]).run Try.prog (w.drewN m) = .ok (.tuple #[]) W' ∧
      impl_rc.St W' g b n { v with f := fun _ => none, c := 0 } ∧ (w.drewN m).grownBy W' (some b) := fun m => by
    have hm := (h.drewN m).m
    have hs := (h.drewN m).s
    have hne := h.ne
    obtain ⟨D, ⟨es, clock, h0, h1⟩, h2⟩ := hm
    have hset := MapKept.heap_set (o' := Obj.map #[] clock) h0
    refine ⟨{ w.drewN m with heap := (w.drewN m).heap.setIfInBounds b (.map #[] clock) }, ?_, ⟨(hset.2 g hne.symm).trans hs, _, ⟨#[], clock, hset.1, ⟨by simp, MapKept.stamped_empty clock, by simp⟩, Nat.zero_le _, rfl⟩, Maps.tidy_empty, rfl, fun x => ⟨rfl, rfl⟩⟩, ⟨rfl, rfl, rfl, by simp, fun k hk hkb => hset.2 k (by simpa using hkb)⟩⟩
    simp [Builtin.clear_, run_underlying Try.underlying54, MapKept.run_getObj_map h0, MapKept.run_setObj_map _ h0, Result.andThen]
  exact Classical.axiomOfChoice hd
noncomputable def impl_rc.reset (v : impl_rc.V) (size : Int) : Int × impl_rc.V :=
  if 0 ≤ size ∧ size ≤ 4611686018427387903 then
    (if v.told < size then (8, v) else if ((v.known && (size != v.fin)) || decide (size < v.top)) = true then (10, v)
    else if v.st = 0 ∨ v.st = 1 then (0, { v with fin := size, known := true, st := 4, f := fun _ => none, c := 0 }) else (0, { v with fin := size, known := true }))
  else (1, v)
set_option maxHeartbeats 8000000 in
set_option maxRecDepth 100000 in
theorem impl_rc.reset_calls (g b n : Nat) (v : impl_rc.V) (size : Int) (w : World) (h : impl_rc.St w g b n v) :
    Calls Try.prog 15 #[.pointer (some ⟨g, 0, none⟩), .int .i64 size] w fun e w' => e = .returned (.int .i64 (impl_rc.reset v size).1) ∧ impl_rc.St w' g b n (impl_rc.reset v size).2 ∧ impl_rc.Kp w w' g b := by
  obtain ⟨st, told, win, read, top, fin, known, f, c⟩ := v
  have HS := Aside0.mk h
  have HGL := am (blk_lt h.s)
  have HBL := Aside0.mk h.m.lt
  obtain ⟨y1_0, f1_0, y1_1, f1_1, y1_2, f1_2, y1_3, f1_3, y1_4, f1_4, y1_5, f1_5, y1_6, f1_6, y1_7, f1_7⟩ := impl_rc.c8 h.s
  dsimp only at y1_0 y1_1 y1_2 y1_3 y1_4 y1_5 y1_6 y1_7
  have HK := am (impl_rc.Kp.refl w g b)
  clear h
  obtain ⟨R, hR⟩ : ∃ R, R = impl_rc.reset ⟨st, told, win, read, top, fin, known, f, c⟩ size := ⟨_, rfl⟩
  rw [← hR]
  unfold impl_rc.reset at hR
  dsimp only at hR
  by_cases c0 : 0 ≤ size ∧ size ≤ 4611686018427387903
  · rw [if_pos c0] at hR
    have HV := am (show impl_inVar.f size = some true from by unfold impl_inVar.f; rw [if_pos (by omega), decide_eq_true (by omega)])
    clear c0
    by_cases c1 : told < size
    · rw [if_pos c1] at hR
      subst hR
      have q1 : decide (told < size) = true := decide_eq_true c1
      clear c1
      go_enter Try.func15, Try.ntmps15
      go_wp2_with (first | (go_at_call 23; refine (impl_inVar.calls size true _ HV.out).mono ?_; rintro e w7_ ⟨rfl, hd_⟩; obtain ⟨md_, hmd_⟩ := hd_; subst hmd_))
      go_ret
      exact ⟨rfl, (by first | exact HS.out | exact HS.out.drew | exact HS.out.drewN _ | ((with_reducible repeat (first | exact HS.out | apply impl_rc.St.drewN | apply impl_rc.St.drew)); done)), (by first | exact HK.out | exact HK.out.drew | exact HK.out.drewN _ | ((with_reducible repeat (first | exact HK.out | apply impl_rc.Kp.drewN | apply impl_rc.Kp.drew)); done))⟩
    · rw [if_neg c1] at hR
      have q1 : decide (told < size) = false := decide_eq_false c1
      clear c1
      have HRR := Aside0.mk hR
      clear hR
      go_enter Try.func15, Try.ntmps15
      go_upto_region 5 with (first | (go_at_call 23; refine (impl_inVar.calls size true _ HV.out).mono ?_; rintro e w7_ ⟨rfl, hd_⟩; obtain ⟨md_, hmd_⟩ := hd_; subst hmd_))
      go_cut [33] from 34 (fun v33 wc => v33 = .bool ((known && (size != fin)) || decide (size < top)) ∧ Aside0 (impl_rc.St wc g b n ⟨st, told, win, read, top, fin, known, f, c⟩) ∧ Aside0 (impl_rc.Kp w wc g b))
      case first =>
        clear HRR q1
        obtain ⟨d1, hd1⟩ : ∃ d, d = (size != fin) := ⟨_, rfl⟩
        obtain ⟨d2, hd2⟩ : ∃ d, d = decide (size < top) := ⟨_, rfl⟩
        have HBAD := am (show ((known && (size != fin)) || decide (size < top)) = ((known && d1) || d2) by rw [hd1, hd2])
        have e3 := hd1.symm
        have e4 := hd2.symm
        clear hd1 hd2
        cases known <;> cases d1 <;> cases d2
        all_goals go_wp2
        all_goals go_meet
        all_goals exact ⟨by rw [HBAD.out]; rfl, ⟨(by first | exact HS.out | exact HS.out.drew | exact HS.out.drewN _ | ((with_reducible repeat (first | exact HS.out | apply impl_rc.St.drewN | apply impl_rc.St.drew)); done))⟩, ⟨(by first | exact HK.out | exact HK.out.drew | exact HK.out.drewN _ | ((with_reducible repeat (first | exact HK.out | apply impl_rc.Kp.drewN | apply impl_rc.Kp.drew)); done))⟩⟩
      case rest =>
        clear HS HK y1_0 f1_0 y1_1 f1_1 y1_2 f1_2 y1_3 f1_3 y1_4 f1_4 y1_5 f1_5 y1_6 f1_6 y1_7 f1_7
        obtain ⟨rfl, HS, HK⟩ := hcut
        refine impl_rc.next_ (by assumption) ?_
        obtain ⟨y2_0, f2_0, y2_1, f2_1, y2_2, f2_2, y2_3, f2_3, y2_4, f2_4, y2_5, f2_5, y2_6, f2_6, y2_7, f2_7⟩ := impl_rc.c8 HS.out.s
        dsimp only at y2_0 y2_1 y2_2 y2_3 y2_4 y2_5 y2_6 y2_7
        have hR := HRR.out
        clear HRR
        cases hbd : ((known && (size != fin)) || decide (size < top)) with
        | true =>
          rw [if_pos hbd] at hR
          subst hR
          go_wp2
          go_ret
          exact ⟨rfl, (by first | exact HS.out | exact HS.out.drew | exact HS.out.drewN _ | ((with_reducible repeat (first | exact HS.out | apply impl_rc.St.drewN | apply impl_rc.St.drew)); done)), (by first | exact HK.out | exact HK.out.drew | exact HK.out.drewN _ | ((with_reducible repeat (first | exact HK.out | apply impl_rc.Kp.drewN | apply impl_rc.Kp.drew)); done))⟩
        | false =>
          rw [if_neg (by rw [hbd]; simp)] at hR
          clear hbd
          have HRR := Aside0.mk hR
          clear hR
          go_upto_region 8 with (fail)
          refine impl_rc.cwp_seal (fun W_ => impl_rc.St W_ g b n ⟨st, told, win, read, top, size, true, f, c⟩ ∧ impl_rc.Kp w W_ g b) ⟨(by (with_reducible repeat (first | apply impl_rc.St.drewN | apply impl_rc.St.drew)); refine impl_rc.St.set (v := ⟨st, told, win, read, top, size, known, f, c⟩) ?_ 7 _ rfl rfl rfl; (with_reducible repeat (first | apply impl_rc.St.drewN | apply impl_rc.St.drew)); refine impl_rc.St.set (v := ⟨st, told, win, read, top, fin, known, f, c⟩) ?_ 6 _ rfl rfl rfl; exact (by first | exact HS.out | exact HS.out.drew | exact HS.out.drewN _ | ((with_reducible repeat (first | exact HS.out | apply impl_rc.St.drewN | apply impl_rc.St.drew)); done))), (by (with_reducible repeat (first | exact HK.out | apply impl_rc.Kp.set | apply impl_rc.Kp.drewN | apply impl_rc.Kp.drew)); first | done | exact HK.out)⟩ ?_
          clear HS HK y2_0 f2_0 y2_1 f2_1 y2_2 f2_2 y2_3 f2_3 y2_4 f2_4 y2_5 f2_5 y2_6 f2_6 y2_7 f2_7
          rintro w6 ⟨h2_, h3_⟩
          have HS := Aside0.mk h2_
          have HK := Aside0.mk h3_
          clear h2_ h3_
          obtain ⟨y3_0, f3_0, y3_1, f3_1, y3_2, f3_2, y3_3, f3_3, y3_4, f3_4, y3_5, f3_5, y3_6, f3_6, y3_7, f3_7⟩ := impl_rc.c8 HS.out.s
          dsimp only at y3_0 y3_1 y3_2 y3_3 y3_4 y3_5 y3_6 y3_7
          have hR := HRR.out
          clear HRR
          by_cases cs0 : st = 0
          · subst cs0
            rw [if_pos (by simp)] at hR
            subst hR
            go_upto_region 10 with (fail)
            refine impl_rc.cwp_seal (fun W_ => impl_rc.St W_ g b n ⟨4, told, win, read, top, size, true, f, c⟩ ∧ impl_rc.Kp w W_ g b) ⟨(by (with_reducible repeat (first | apply impl_rc.St.drewN | apply impl_rc.St.drew)); refine impl_rc.St.set (v := ⟨0, told, win, read, top, size, true, f, c⟩) ?_ 0 _ rfl rfl rfl; exact (by first | exact HS.out | exact HS.out.drew | exact HS.out.drewN _ | ((with_reducible repeat (first | exact HS.out | apply impl_rc.St.drewN | apply impl_rc.St.drew)); done))), (by (with_reducible repeat (first | exact HK.out | apply impl_rc.Kp.set | apply impl_rc.Kp.drewN | apply impl_rc.Kp.drew)); first | done | exact HK.out)⟩ ?_
            clear HS HK y3_0 f3_0 y3_1 f3_1 y3_2 f3_2 y3_3 f3_3 y3_4 f3_4 y3_5 f3_5 y3_6 f3_6 y3_7 f3_7
            rintro w8 ⟨h2_, h3_⟩
            have HS := Aside0.mk h2_
            have HK := Aside0.mk h3_
            clear h2_ h3_
            obtain ⟨y4_0, f4_0, y4_1, f4_1, y4_2, f4_2, y4_3, f4_3, y4_4, f4_4, y4_5, f4_5, y4_6, f4_6, y4_7, f4_7⟩ := impl_rc.c8 HS.out.s
            dsimp only at y4_0 y4_1 y4_2 y4_3 y4_4 y4_5 y4_6 y4_7
            obtain ⟨W1, hW⟩ := impl_rc.clr HS.out
            have kd := fun m => (hW m).1
            have kd0 : (Builtin.clear_ #[54] 0 #[.map (some b)]).run Try.prog w8 = _ := kd 0
            have kd1 : (Builtin.clear_ #[54] 0 #[.map (some b)]).run Try.prog w8.drew = _ := kd 1
            have HW := am (fun m => (hW m).2)
            clear hW
            go_wp2
            go_ret
            first | exact ⟨rfl, (HW.out 0).1, impl_rc.Kp.grown HK.out (HW.out 0).2 (impl_rc.below_grown (HW.out 0).2 (Nat.lt_of_lt_of_le HBL.out HK.out.sz))⟩ | exact ⟨rfl, (HW.out 1).1, impl_rc.Kp.grown (HK.out.drewN 1) (HW.out 1).2 (impl_rc.below_grown (HW.out 1).2 (Nat.lt_of_lt_of_le HBL.out HK.out.sz))⟩
          · have q_0 : (st == 0) = false := beq_eq_false_iff_ne.2 cs0
            by_cases cs1 : st = 1
            · subst cs1
              rw [if_pos (by simp)] at hR
              subst hR
              go_upto_region 10 with (fail)
              refine impl_rc.cwp_seal (fun W_ => impl_rc.St W_ g b n ⟨4, told, win, read, top, size, true, f, c⟩ ∧ impl_rc.Kp w W_ g b) ⟨(by (with_reducible repeat (first | apply impl_rc.St.drewN | apply impl_rc.St.drew)); refine impl_rc.St.set (v := ⟨1, told, win, read, top, size, true, f, c⟩) ?_ 0 _ rfl rfl rfl; exact (by first | exact HS.out | exact HS.out.drew | exact HS.out.drewN _ | ((with_reducible repeat (first | exact HS.out | apply impl_rc.St.drewN | apply impl_rc.St.drew)); done))), (by (with_reducible repeat (first | exact HK.out | apply impl_rc.Kp.set | apply impl_rc.Kp.drewN | apply impl_rc.Kp.drew)); first | done | exact HK.out)⟩ ?_
              clear HS HK y3_0 f3_0 y3_1 f3_1 y3_2 f3_2 y3_3 f3_3 y3_4 f3_4 y3_5 f3_5 y3_6 f3_6 y3_7 f3_7
              rintro w8 ⟨h2_, h3_⟩
              have HS := Aside0.mk h2_
              have HK := Aside0.mk h3_
              clear h2_ h3_
              obtain ⟨y5_0, f5_0, y5_1, f5_1, y5_2, f5_2, y5_3, f5_3, y5_4, f5_4, y5_5, f5_5, y5_6, f5_6, y5_7, f5_7⟩ := impl_rc.c8 HS.out.s
              dsimp only at y5_0 y5_1 y5_2 y5_3 y5_4 y5_5 y5_6 y5_7
              obtain ⟨W1, hW⟩ := impl_rc.clr HS.out
              have kd := fun m => (hW m).1
              have kd0 : (Builtin.clear_ #[54] 0 #[.map (some b)]).run Try.prog w8 = _ := kd 0
              have kd1 : (Builtin.clear_ #[54] 0 #[.map (some b)]).run Try.prog w8.drew = _ := kd 1
              have HW := am (fun m => (hW m).2)
              clear hW
              go_wp2
              go_ret
              first | exact ⟨rfl, (HW.out 0).1, impl_rc.Kp.grown HK.out (HW.out 0).2 (impl_rc.below_grown (HW.out 0).2 (Nat.lt_of_lt_of_le HBL.out HK.out.sz))⟩ | exact ⟨rfl, (HW.out 1).1, impl_rc.Kp.grown (HK.out.drewN 1) (HW.out 1).2 (impl_rc.below_grown (HW.out 1).2 (Nat.lt_of_lt_of_le HBL.out HK.out.sz))⟩
            · have q_1 : (st == 1) = false := beq_eq_false_iff_ne.2 cs1
              rw [if_neg (by omega)] at hR
              subst hR
              clear cs0 cs1
              go_wp2
              go_ret
              exact ⟨rfl, (by first | exact HS.out | exact HS.out.drew | exact HS.out.drewN _ | ((with_reducible repeat (first | exact HS.out | apply impl_rc.St.drewN | apply impl_rc.St.drew)); done)), (by first | exact HK.out | exact HK.out.drew | exact HK.out.drewN _ | ((with_reducible repeat (first | exact HK.out | apply impl_rc.Kp.drewN | apply impl_rc.Kp.drew)); done))⟩
  · rw [if_neg c0] at hR
    subst hR
    have HV := am (show impl_inVar.f size = some false from by unfold impl_inVar.f; by_cases h_ : size ≥ 0; (rw [if_pos h_, decide_eq_false (by omega)]); (rw [if_neg h_]))
    clear c0
    go_enter Try.func15, Try.ntmps15
    go_wp2_with (first | (go_at_call 23; refine (impl_inVar.calls size false _ HV.out).mono ?_; rintro e w7_ ⟨rfl, hd_⟩; obtain ⟨md_, hmd_⟩ := hd_; subst hmd_))
    go_ret
    exact ⟨rfl, (by first | exact HS.out | exact HS.out.drew | exact HS.out.drewN _ | ((with_reducible repeat (first | exact HS.out | apply impl_rc.St.drewN | apply impl_rc.St.drew)); done)), (by first | exact HK.out | exact HK.out.drew | exact HK.out.drewN _ | ((with_reducible repeat (first | exact HK.out | apply impl_rc.Kp.drewN | apply impl_rc.Kp.drew)); done))⟩


end Go.Proofs.Ytkmopmoglgcamaa.PFnPipe
