/- A lemma text: what was known of a world is known of each world that came of it by new blocks and draws alone; no condition. -/
import Derived.Test.YtkmopmoglgcamaaWMore
import Derived.Test.YtkmopmoglgcamaaWLast
import Derived.Test.YtkmopmoglgcamaaWWords
namespace Go.Proofs.YtkmopmoglgcamaaW.PrintMore
open Go.RowKit Go.Proofs.YtkmopmoglgcamaaW.PrintWords Go.Proofs.YtkmopmoglgcamaaW.PrintLast
class Ext (w W : World) : Prop where
  below : Below w.heap.size w W
instance extRefl (w : World) : Ext w w := ⟨Below.refl _ _⟩
instance extDrew {w W : World} [h : Ext w W] : Ext w W.drew := ⟨below_drew1 h.below⟩
instance extDrewN {w W : World} [h : Ext w W] (n : Nat) : Ext w (W.drewN n) := ⟨pw_below_drewN h.below n⟩
instance extAlloc {w W : World} [h : Ext w W] (o : Obj) : Ext w (W.alloc o) := ⟨below_alloc h.below o⟩
theorem bq {w W : World} {g : Nat} {o : Obj} [e : Ext w W] (h : w.heap[g]? = some o) : W.heap[g]? = some o := blk_below h e.below
theorem rq {α : Type} {d : Kd α} {e base : Nat} {ok : Nat → Prop} {w W : World} {v : Value} {xs : List α} [h : Ext w W] (hr : d.R e w base ok v xs) : d.R e W base ok v xs := Kd.R_below hr h.below
theorem hq {w0 w W : World} [h : Ext w W] (hb : Below w0.heap.size w0 w) : Below w0.heap.size w0 W := hb.trans (h.below.mono hb.size)
theorem sA {α : Type} (l : List α) (i : Nat) (a : α) : l.toArray.setIfInBounds i a = (l.set i a).toArray := by simp only [List.setIfInBounds_toArray]
theorem sB {α : Type} (a b : α) (l : List α) : (a :: l).set 0 b = b :: l := rfl
theorem sC {α : Type} (a b : α) (l : List α) (i : Nat) : (a :: l).set (i + 1) b = a :: l.set i b := rfl
theorem ob {x : Nat} {A : Option Addr} {n m c : Nat} (h : some x ≠ (Value.slice A n c).ownBlock) : some x ≠ (Value.slice A m c).ownBlock := by cases A <;> exact h
theorem am {P : Prop} (h : P) : Aside0 P := ⟨h⟩
theorem bc {w : World} {g : Nat} {t : TypeId} {cs : Array Value} {v : Value} (h : Aside0 (w.heap[g]? = some (.cells cs t (0, 0)))) (i : Nat) (e : cs[i]? = some v := by rfl) : w.cell? ⟨g, i, none⟩ = some v := (blk_cell h.out i).trans e
/-- The world that stands under new blocks and draws. -/
class Under (W : World) (w : outParam World) : Prop where
  below : Below w.heap.size w W
instance (priority := low) underSelf (w : World) : Under w w := ⟨Below.refl _ _⟩
instance underDrew {w W : World} [h : Under W w] : Under W.drew w := ⟨below_drew1 h.below⟩
instance underDrewN {w W : World} [h : Under W w] (n : Nat) : Under (W.drewN n) w := ⟨pw_below_drewN h.below n⟩
instance underAlloc {w W : World} [h : Under W w] (o : Obj) : Under (W.alloc o) w := ⟨below_alloc h.below o⟩
theorem cq {α : Type} {d : Kd α} {e base : Nat} {ok : Nat → Prop} {w W : World} {A : Option Addr} {n c : Nat} {xs : List α} [Ext w W] (h : Aside0 (d.R e w base ok (.slice A n c) xs)) : d.C W A xs.length xs := (Kd.R_reads' (rq (W := W) h.out)).2.2
theorem ch {α : Type} {d : Kd α} {w0 w W : World} {A : Option Addr} {n : Nat} {xs : List α} [Ext w W] (h : Aside0 (d.C w0 A n xs)) (hb : Aside0 (Below w0.heap.size w0 w)) : d.C W A n xs := Kd.C_below h.out (hq (W := W) hb.out)
theorem bu {w W : World} {g : Nat} {o : Obj} [e : Under W w] (h : w.heap[g]? = some o) : W.heap[g]? = some o := blk_below h e.below
theorem bs {w W : World} {g j : Nat} {v : Value} (h : Below w.heap.size w W) (hg : w.heap.size ≤ g) : Below w.heap.size w (W.setCell ⟨g, j, none⟩ v) := below_set h hg
class Strip (W : World) (w : outParam World) : Prop where
  below : Below w.heap.size w W
instance stripDrew {w W : World} [h : Under W w] : Strip W.drew w := ⟨below_drew1 h.below⟩
instance stripDrewN {w W : World} [h : Under W w] (n : Nat) : Strip (W.drewN n) w := ⟨pw_below_drewN h.below n⟩
instance stripAlloc {w W : World} [h : Under W w] (o : Obj) : Strip (W.alloc o) w := ⟨below_alloc h.below o⟩
theorem us {w0 w W : World} [h : Strip W w] (hb : Below w0.heap.size w0 w) : Below w0.heap.size w0 W := below_step hb h.below
/-- Nothing but block g was written between the two worlds. -/
class Sets (W w : World) (g : Nat) : Prop where
  keep : KeepBut w W g none
instance setsSelf (w : World) (g : Nat) : Sets w w g := ⟨KeepBut.refl _ _ _⟩
instance setsDrew {w W : World} {g : Nat} [h : Sets W w g] : Sets W.drew w g := ⟨keep_drewN h.keep 1⟩
instance setsDrewN {w W : World} {g : Nat} [h : Sets W w g] (n : Nat) : Sets (W.drewN n) w g := ⟨keep_drewN h.keep n⟩
instance setsAlloc {w W : World} {g : Nat} [h : Sets W w g] (o : Obj) : Sets (W.alloc o) w g := ⟨keep_alloc h.keep o⟩
instance setsSet {w W : World} {g : Nat} [h : Sets W w g] (j : Nat) (u : Value) : Sets (W.setCell ⟨g, j, none⟩ u) w g := ⟨h.keep.set_ j u⟩
theorem r4 {α : Type} {d : Kd α} {e base g t : Nat} {cs : Array Value} {ok : Nat → Prop} {w W : World} {v : Value} {xs : List α} [s : Sets W w g] (h : Aside0 (d.R e w base ok v xs)) (hb : Aside0 (w.heap[g]? = some (.cells cs t (0, 0)))) (ht : ∀ q, q ∈ e :: d.E → q ≠ t := by decide) : d.R e W base ok v xs :=
  Kd.R_mono (Kd.R_keep (Kd.R_types h.out hb.out ht) s.keep (fun _ hk => hk.2)) (fun _ hk => hk.1)
theorem cq4 {α : Type} {d : Kd α} {e base g t : Nat} {cs : Array Value} {ok : Nat → Prop} {w W : World} {A : Option Addr} {n c : Nat} {xs : List α} [s : Sets W w g] (h : Aside0 (d.R e w base ok (.slice A n c) xs)) (hb : Aside0 (w.heap[g]? = some (.cells cs t (0, 0)))) (ht : ∀ q, q ∈ e :: d.E → q ≠ t := by decide) : d.C W A xs.length xs := (Kd.R_reads' (r4 (W := W) h hb ht)).2.2
/-- The worlds only grow. -/
class Sz (W w : World) : Prop where
  size : w.heap.size ≤ W.heap.size
instance szSelf (w : World) : Sz w w := ⟨Nat.le_refl _⟩
instance szDrew {w W : World} [h : Sz W w] : Sz W.drew w := ⟨h.size⟩
instance szDrewN {w W : World} [h : Sz W w] (n : Nat) : Sz (W.drewN n) w := ⟨h.size⟩
instance szAlloc {w W : World} [h : Sz W w] (o : Obj) : Sz (W.alloc o) w := ⟨Nat.le_trans h.size (below_alloc (Below.refl _ _) o).size⟩
instance szSet {w W : World} [h : Sz W w] (p : Addr) (u : Value) : Sz (W.setCell p u) w := ⟨by simpa [World.setCell] using h.size⟩
section
variable {α β : Type} {d : Kd α} {d' : Kd β} {e e' base b' g t : Nat} {cs : Array Value} {ok ok' : Nat → Prop} {w w1 w2 W : World} {u v : Value} {xs : List α} {ys : List β}
theorem nw [s : Sz W w2] (h : d.R e w1 W.heap.size ok v xs) (h2 : Aside0 (d'.R e' w2 b' ok' u ys)) : d.R e w1 W.heap.size (fun k => ok k ∧ some k ≠ u.ownBlock) v xs := Kd.R_new' h (fun k hk => Nat.lt_of_lt_of_le (Kd.R_lt h2.out k hk) s.size)
theorem el [s : Ext w W] (h : Aside0 (d.R e w base ok v xs)) (ho : d'.R e' w1 W.heap.size ok' u ys) (hb : Below W.heap.size W w1) : Aside0 (d.R e w1 base (fun k => ok k ∧ some k ≠ u.ownBlock) v xs) := ⟨Kd.R_elder' (rq (W := W) h.out) (Kd.R_base ho) hb⟩
theorem el4 [s : Sets W w g] (h : Aside0 (d.R e w base ok v xs)) (hg : Aside0 (w.heap[g]? = some (.cells cs t (0, 0)))) (ho : d'.R e' w1 W.heap.size ok' u ys) (hb : Below W.heap.size W w1) (ht : ∀ q, q ∈ e :: d.E → q ≠ t := by decide) : Aside0 (d.R e w1 base (fun k => ok k ∧ some k ≠ u.ownBlock) v xs) := ⟨Kd.R_elder' (r4 (W := W) h hg ht) (Kd.R_base ho) hb⟩
theorem rb [s : Ext w W] (h : Aside0 (d.R e w base ok v xs)) (hb : Below W.heap.size W w1) : Aside0 (d.R e w1 base ok v xs) := ⟨Kd.R_below (rq (W := W) h.out) hb⟩
theorem kb [s : Ext w W] {o : Obj} (h : Aside0 (w.heap[g]? = some o)) (hb : Below W.heap.size W w1) : Aside0 (w1.heap[g]? = some o) := ⟨blk_below (bq (W := W) h.out) hb⟩
theorem o4 [s : Ext w W] {β1 β2 β3 β4 : Type} {d1 : Kd β1} {d2 : Kd β2} {d3 : Kd β3} {d4 : Kd β4} {e1 e2 e3 e4 : Nat} {ok1 ok2 ok3 ok4 : Nat → Prop} {u1 u2 u3 u4 : Value} {y1 : List β1} {y2 : List β2} {y3 : List β3} {y4 : List β4} (h : Aside0 (d.R e w base ok v xs)) (hb : Below W.heap.size W w1)
    (h1 : d1.R e1 w1 W.heap.size ok1 u1 y1) (h2 : d2.R e2 w1 W.heap.size ok2 u2 y2) (h3 : d3.R e3 w1 W.heap.size ok3 u3 y3) (h4 : d4.R e4 w1 W.heap.size ok4 u4 y4) : Aside0 (d.R e w1 base (fun k => (((ok k ∧ some k ≠ u1.ownBlock) ∧ some k ≠ u2.ownBlock) ∧ some k ≠ u3.ownBlock) ∧ some k ≠ u4.ownBlock) v xs) :=
  ⟨Kd.R_mono (Kd.R_told (Kd.R_told (Kd.R_told (Kd.R_told (Kd.R_old (rq (W := W) h.out) hb) (Kd.R_base h1)) (Kd.R_base h2)) (Kd.R_base h3)) (Kd.R_base h4)) (fun _ h_ => h_.1)⟩
end
end Go.Proofs.YtkmopmoglgcamaaW.PrintMore
