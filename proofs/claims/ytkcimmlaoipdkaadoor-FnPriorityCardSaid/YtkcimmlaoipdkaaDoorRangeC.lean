/- A range over a function whose iterator moves a captured variable on, which lies in a block of cells: the kit's own law over such a statement (wpIn_rangeFunc), for a body that is never left ahead of its end. By a program of this repo's hand; Lean checks it. -/
import Derived.RangeFuncNested
import Derived.RangeFuncBound
import Derived.RangeFuncCalls
import Derived.RangeFuncLeaves
import Derived.Shelf.RegionOpen
import Derived.WalkKit
import Derived.OwnWalkIn
import Derived.TacticsInMore
import Derived.LoopNIn
import Derived.LoopIn
namespace Go.Proofs.YtkcimmlaoipdkaaDoor.RangeC
open Go Go.RowKit
/-- From block lo on, whatever lay there lies as it lay. -/
def Held (lo : Nat) (W W' : World) : Prop := W.heap.size ≤ W'.heap.size ∧ ∀ b, lo ≤ b → b < W.heap.size → W'.heap[b]? = W.heap[b]?
theorem Held.refl (lo : Nat) (W : World) : Held lo W W := ⟨Nat.le_refl _, fun _ _ _ => rfl⟩
theorem Held.trans {lo : Nat} {A B C : World} (h : Held lo A B) (k : Held lo B C) : Held lo A C :=
  ⟨Nat.le_trans h.1 k.1, fun b h1 h2 => (k.2 b h1 (Nat.lt_of_lt_of_le h2 h.1)).trans (h.2 b h1 h2)⟩
theorem Held.drewN {lo : Nat} {A B : World} (h : Held lo A B) (k : Nat) : Held lo A (B.drewN k) := ⟨h.1, fun b h1 h2 => h.2 b h1 h2⟩
theorem Held.set {lo : Nat} {A B : World} (h : Held lo A B) {p : Addr} (hp : p.block < lo) (v : Value) : Held lo A (B.setCell p v) :=
  h.trans ⟨by simp [World.setCell], fun b h1 h2 => Below.heap_setCell _ _ _ _ (by omega)⟩
/-- The iterator's word: over whatever abides a draw and a store into its own variable (block Bs), all of xs comes. -/
def Seq (F : Fence) (n : Nat) (P : Program) (g : Nat) (lb : Array Value) {α : Type} (encs : α → Array Value) (xs : List α) (lo Bs : Nat) (w : World) : Prop :=
  ∀ (l : Nat) (J : List α → World → Prop) (W : World), (∀ b, b < w.heap.size → W.heap[b]? = w.heap[b]?) → w.heap.size ≤ W.heap.size → (∀ s A k, J s A → J s (A.drewN k)) → (∀ s A v, J s A → J s (A.setCell ⟨Bs, 0, none⟩ v)) →
    (∀ pre x W1, J pre W1 → pre ++ [x] <+: xs → YieldAt F (n - 1) P l (encs x) W1 fun e W' => e = .returned (.bool true) ∧ J (pre ++ [x]) W' ∧ (∀ b, lo ≤ b → b < w.heap.size → W'.heap[b]? = W1.heap[b]?)) →
    J [] W → CallsIn F n P g (#[.func (.yield l) #[] #[]] ++ lb) W fun e W' => (∃ v, e = .returned v) ∧ J xs W'
variable {F : Fence} {n : Nat} {P : Program}
theorem range {α : Type} {g : Operand} {ps : Array Tmp} {assign body : Code} {Q : Exit → Act → World → Prop} {a : Act} {w : World}
    (hro : F.round = none) (h1 : 1 ≤ n) {gf : Nat} {lb : Array Value} (hg : a.eval g = .func (.func gf) #[] lb) (hFg : F.fn gf) (eg : ∀ args w, (callFunc gf args).run P w = .ok (.enter gf args) w)
    {encs : α → Array Value} {xs : List α} {lo Bs : Nat} (hseq : Seq F (n - 1) P gf lb encs xs lo Bs w) (hps : ∀ x, (encs x).size = ps.size) (hlo : lo ≤ Bs) (hBs : Bs < w.heap.size)
    (I : List α → World → Prop) (hI : ∀ s A B, I s A → Below w.heap.size A B → w.heap.size ≤ A.heap.size → I s B) (hIs : ∀ s A v, I s A → I s (A.setCell ⟨Bs, 0, none⟩ v)) (hIz : ∀ s A, I s A → w.heap.size ≤ A.heap.size) (h0 : I [] w) (a₁ : α → Act)
    (hassign : ∀ (l : Nat) (x : α) (W : World) (K : Act → World → Prop), K (a₁ x) W →
      assign.wpIn (F.inRound l) (n - 1 - 1) P (Exit.then K (fun _ _ _ => False)) { tmps := (ps.zip (encs x)).foldl (fun t (p, v) => t.setIfInBounds p v) a.tmps, defers := [] } W)
    (hbody : ∀ (l : Nat) (pre : List α) (x : α) (W : World), I pre W → pre ++ [x] <+: xs → body.wpIn (F.inRound l) (n - 1 - 1) P (fun e _ W' => e = .normal ∧ Held lo W W' ∧ I (pre ++ [x]) W') (a₁ x) W)
    (hdone : ∀ (W : World), I xs W → W.heap[w.heap.size]? = some (.deferred (some [])) → Q .normal { a with defers := { target := .collected w.heap.size, args := #[] } :: a.defers } W) :
    (Code.rangeFunc g ps assign body).wpIn F n P Q a w := by
  refine wpIn_rangeFunc ?_
  intro fn hfn
  rw [hro]
  obtain ⟨rec, hrec⟩ : ∃ rec : LoopState → Loop, rec = fun st => { state := st, pending := none, fn, tmps := a.tmps, params := ps, assign, body, defers := w.heap.size } := ⟨_, rfl⟩
  have hsz : (w.alloc (.deferred (some []))).heap.size = w.heap.size + 1 := by simp
  obtain ⟨W1, hW1⟩ : ∃ W1, (w.alloc (.deferred (some []))).alloc (.loop (rec .ready)) = W1 := ⟨_, rfl⟩
  have hb1 : Below w.heap.size w W1 := by
    rw [← hW1]; exact ((Below.refl _ w).alloc (Nat.le_refl _) _).alloc (by rw [hsz]; omega) _
  have hL1 : W1.heap[w.heap.size + 1]? = some (.loop (rec .ready)) := by
    rw [← hW1, ← hsz]; exact World.alloc_heap_new _ _
  have hD1 : W1.heap[w.heap.size]? = some (.deferred (some [])) := by
    rw [← hW1]; exact (Below.heap_alloc _ _ _ (by omega)).trans (World.alloc_heap_new w _)
  have hW1s : w.heap.size ≤ W1.heap.size := hb1.size
  refine ⟨w.heap.size + 1, [{ target := .collected w.heap.size, args := #[] }], W1, { target := .fn (.func gf) lb, args := #[.func (.yield (w.heap.size + 1)) #[] #[]] }, W1, gf,
    #[.func (.yield (w.heap.size + 1)) #[] #[]] ++ lb, W1, ?_, ?_, ?_, ?_, fun _ => h1, ?_⟩
  · rw [← hW1, hrec]; exact run_enterLoop_outer _ _ _ _ _
  · simp only [resolve, hg]
    simp [go_sem]
  · intro f' hf'; simp [Target.leads] at hf'; subst hf'; exact hFg
  · simp [invoke, go_sem, eg]
  · have putB : ∀ (W : World) (l : Nat) (o : Obj), w.heap.size ≤ l → Below w.heap.size W (W.putObj l o) := fun W l o hl =>
      ⟨rfl, rfl, rfl, by simp, fun k hk => World.putObj_heap_other (by omega)⟩
    refine (hseq (w.heap.size + 1) (fun pre W => I pre W ∧ W.heap[w.heap.size + 1]? = some (.loop (rec .ready)) ∧ W.heap[w.heap.size]? = some (.deferred (some []))) W1
      (fun b hb => hb1.block b hb) hW1s
      (fun s A k hs => ⟨hI s A _ hs.1 ⟨rfl, rfl, rfl, Nat.le_refl _, fun _ _ => rfl⟩ (hIz s A hs.1), hs.2.1, hs.2.2⟩)
      (fun s A v hs => ⟨hIs s A v hs.1, (Below.heap_setCell _ _ _ _ (by show w.heap.size + 1 ≠ Bs; omega)).trans hs.2.1, (Below.heap_setCell _ _ _ _ (by show w.heap.size ≠ Bs; omega)).trans hs.2.2⟩)
      ?_ ⟨hI _ _ _ h0 hb1 (Nat.le_refl _), hL1, hD1⟩).mono ?_
    · rintro pre x W ⟨hi, hl, hd⟩ hpre
      have hlt : w.heap.size + 1 < W.heap.size := (Array.getElem?_eq_some_iff.1 hl).1
      have hy := run_yield (P := P) (args := encs x) hl (by rw [hrec]; exact hps x)
      rw [hrec] at hy
      refine ⟨fn, _, assign, body, hy, roundIn_of_wpIn hfn (hassign _ x W _ ?_)⟩
      clear hy
      obtain ⟨W2, hW2⟩ : ∃ W2, W.putObj (w.heap.size + 1) (.loop (rec .busy)) = W2 := ⟨_, rfl⟩
      refine ⟨W2, ?_, ?_⟩
      · have := run_beginRound (P := P) hl (by rw [hrec])
        rw [← hW2]
        rw [hrec] at this ⊢
        exact this
      have hs2 : W2.heap.size = W.heap.size := by rw [← hW2]; simp
      have hl2 : W2.heap[w.heap.size + 1]? = some (.loop (rec .busy)) := by rw [← hW2]; exact World.putObj_heap_same hlt
      have hd2 : W2.heap[w.heap.size]? = some (.deferred (some [])) := by rw [← hW2]; exact (World.putObj_heap_other (by omega)).trans hd
      have hi2 : I pre W2 := by rw [← hW2]; exact hI _ _ _ hi (putB _ _ _ (by omega)) (hIz _ _ hi)
      refine wpIn_mono (hbody _ pre x W2 hi2 hpre) ?_
      rintro e a3 W3 ⟨rfl, hh, hi3⟩
      have hl3 : W3.heap[w.heap.size + 1]? = some (.loop (rec .busy)) := (hh.2 _ (by omega) (by omega)).trans hl2
      have hd3 : W3.heap[w.heap.size]? = some (.deferred (some [])) := (hh.2 _ (by omega) (by omega)).trans hd2
      refine ⟨.bool true, W3.putObj (w.heap.size + 1) (.loop (rec .ready)), ?_, rfl, ⟨hI _ _ _ hi3 (putB _ _ _ (by omega)) (hIz _ _ hi3), World.putObj_heap_same (Array.getElem?_eq_some_iff.1 hl3).1, (World.putObj_heap_other (by omega)).trans hd3⟩, ?_⟩
      · have := run_endRound (P := P) none hl3
        rw [hrec] at this ⊢
        exact this
      · intro b hb1' hb2'
        rw [World.putObj_heap_other (by omega), hh.2 b hb1' (by omega), ← hW2, World.putObj_heap_other (by omega)]
    · rintro e W2 ⟨⟨v, rfl⟩, hi, hl, hd⟩
      refine ⟨none, W2.putObj (w.heap.size + 1) (.loop (rec .exhausted)), ?_, hdone _ (hI _ _ _ hi (putB _ _ _ (by omega)) (hIz _ _ hi)) ((World.putObj_heap_other (by omega)).trans hd)⟩
      have := run_endLoop (P := P) hl (by rw [hrec]; simp)
      rw [hrec] at this ⊢
      exact this
end Go.Proofs.YtkcimmlaoipdkaaDoor.RangeC
