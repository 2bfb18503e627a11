/- A lemma text: whatever datum is read at a type of whole numbers, bools, strings, structs and slices of these is described by a kind of values; no condition. -/
import Derived.Test.YtobcmccoadeocaaWWords
import Derived.ChangeSlices
import Derived.WideShapes
import Derived.RowKit
namespace Go.Proofs.Ytobcmccoadeocaa.Opens
open Go.RowKit Go.ChangeShapes Go.WideShapes Go.Proofs.YtobcmccoadeocaaW.PrintWords
set_option linter.unusedVariables false
section
variable {H : Type} {enc : TypeId × Value → H} {P : Program} {W : World}
/-- Every datum that is read at type t is told by d, and is good. -/
def Opens {α : Type} (enc : TypeId × Value → H) (P : Program) (W : World) (t : TypeId) (d : Kd α) (good : α → Prop) : Prop :=
  P.cellsOf t = d.sz ∧ ∀ (fuel : Nat) (cs : List Value) (x : DataW H × List MemPlace), DataW.trod enc P W 0 (fun _ => true) true fuel t cs = some x → ∃ a, d.K W a cs ∧ good a
theorem opens_int {t : TypeId} {k : IntKind} (ht : P.underlying t = some (.int k)) (hc : P.cellsOf t = 1) : Opens enc P W t (Kd.int k) (fun a => (Lit.int k a).wf = true) := by
  refine ⟨hc, fun fuel cs x h => ?_⟩
  obtain ⟨n, rfl, _, hw⟩ := DataW.trod_int ht h
  exact ⟨n, rfl, hw⟩
theorem opens_bool {t : TypeId} (ht : P.underlying t = some .bool) (hc : P.cellsOf t = 1) : Opens enc P W t Kd.bool (fun _ => True) := by
  refine ⟨hc, fun fuel cs x h => ?_⟩
  obtain ⟨n, rfl, _⟩ := DataW.trod_bool ht h
  exact ⟨n, rfl, trivial⟩
theorem opens_string {t : TypeId} (ht : P.underlying t = some .string) (hc : P.cellsOf t = 1) : Opens enc P W t Kd.string (fun a => a.size ≤ maxLen) := by
  refine ⟨hc, fun fuel cs x h => ?_⟩
  obtain ⟨n, rfl, _, hw⟩ := DataW.trod_string ht h
  exact ⟨n, rfl, hw⟩
theorem add_add (a : Addr) (i j : Nat) : (a.add i).add j = a.add (i + j) := by
  unfold Addr.add
  cases i with
  | zero => simp
  | succ i =>
    cases j with
    | zero => simp
    | succ j => simp [Nat.add_assoc]
theorem choose_list {α : Type} (R : Nat → α → Prop) : ∀ n : Nat, (∀ i, i < n → ∃ a, R i a) → ∃ l : List α, l.length = n ∧ ∀ i a, l[i]? = some a → R i a
  | 0, _ => ⟨[], rfl, by simp⟩
  | n + 1, h => by
    obtain ⟨l, hl, hr⟩ := choose_list R n (fun i hi => h i (by omega))
    obtain ⟨a, ha⟩ := h n (by omega)
    refine ⟨l ++ [a], by simp [hl], fun i b hb => ?_⟩
    by_cases hi : i < l.length
    · rw [List.getElem?_append_left hi] at hb
      exact hr i b hb
    · have hi2 : i = n := by
        have := (List.getElem?_eq_some_iff.1 hb).1
        simp at this
        omega
      subst hi2
      rw [List.getElem?_append_right (by omega)] at hb
      simp [hl] at hb
      exact hb ▸ ha
theorem opens_slice {t e : TypeId} {α : Type} {d : Kd α} {good : α → Prop} (ht : P.underlying t = some (.slice e)) (hc : P.cellsOf t = 1) (h : Opens enc P W e d good) :
    Opens enc P W t (Kd.slice e d) (fun xs => xs.length ≤ maxLen ∧ ∀ x ∈ xs, good x) := by
  refine ⟨hc, fun fuel cs x hx => ?_⟩
  rcases DataW.trod_slice ht hx with ⟨rfl, _⟩ | ⟨a, len, cap, elems, rest, n, _, rfl, _, hb, hl, hm, hlen, hel, _, _⟩
  · exact ⟨[], ⟨none, 0, rfl, Nat.le_refl _, rfl, by simp, by simp⟩, by simp, by simp⟩
  · have each : ∀ i, i < len → ∃ q : α, good q ∧ ∃ c : List Value, c.length = d.sz ∧ d.K W q c ∧ ∀ j u, c[j]? = some u → W.cell? (a.add (i * d.sz + j)) = some u := by
      intro i hi
      have h1 := hel i hi
      have h2 : elems[i]? = some (elems[i]'(by omega)) := List.getElem?_eq_getElem (by omega)
      rw [h2] at h1
      obtain ⟨c, hcs, htr⟩ := Option.bind_eq_some_iff.1 h1
      obtain ⟨q, hq, hg⟩ := h.2 _ _ _ htr
      obtain ⟨_, hcl, hcell⟩ := World.cells?_some hcs
      refine ⟨q, hg, c, by rw [hcl, h.1], hq, fun j u hj => ?_⟩
      have hj2 := (List.getElem?_eq_some_iff.1 hj).1
      have h3 := hcell j (by omega)
      rw [add_add, h.1] at h3
      rw [h3, hj]
    obtain ⟨l, hll, hlr⟩ := choose_list _ len each
    refine ⟨l, ⟨some a, cap, by rw [hll], by omega, ?_⟩, by show l.length ≤ maxLen; omega, ?_⟩
    · refine ⟨rfl, by unfold maxLen at hm; omega, fun _ => ⟨a, rfl, fun j p hp => ?_⟩⟩
      obtain ⟨_, c, hc1, hc2, hc3⟩ := hlr j p hp
      exact ⟨c, hc1, hc2, hc3⟩
    · intro q hq
      obtain ⟨i, hi⟩ := List.getElem?_of_mem hq
      exact (hlr i q hi).1
/-- The fields from one on, at its place. -/
def OpensF {α : Type} (enc : TypeId × Value → H) (P : Program) (W : World) (off : Nat) (fs : List Field) (d : Kd α) (good : α → Prop) : Prop :=
  ∀ (fuel : Nat) (cs : List Value), cs.length = off + d.sz → (∀ f ∈ fs, ∃ x, DataW.trod enc P W 0 (fun _ => true) true fuel f.type ((cs.drop f.offset).take (P.cellsOf f.type)) = some x) → ∃ a, d.K W a (cs.drop off) ∧ good a
theorem opensF_one {α : Type} {off : Nat} {f : Field} {d : Kd α} {good : α → Prop} (ho : f.offset = off) (h : Opens enc P W f.type d good) : OpensF enc P W off [f] d good := by
  intro fuel cs hl hf
  obtain ⟨x, hx⟩ := hf f (by simp)
  rw [ho, h.1, List.take_of_length_le (by simp; omega)] at hx
  exact h.2 _ _ _ hx
theorem opensF_cons {α β : Type} {off : Nat} {f : Field} {fs : List Field} {d : Kd α} {d2 : Kd β} {good : α → Prop} {good2 : β → Prop} (ho : f.offset = off) (h : Opens enc P W f.type d good) (h2 : OpensF enc P W (off + d.sz) fs d2 good2) :
    OpensF enc P W off (f :: fs) (Kd.pair d d2) (fun x => good x.1 ∧ good2 x.2) := by
  intro fuel cs hl hf
  have hl' : cs.length = off + (d.sz + d2.sz) := hl
  obtain ⟨x, hx⟩ := hf f (by simp)
  rw [ho, h.1] at hx
  obtain ⟨a, ha, hg⟩ := h.2 _ _ _ hx
  obtain ⟨b, hb, hg2⟩ := h2 fuel cs (by omega) (fun g hg => hf g (by simp [hg]))
  refine ⟨(a, b), ⟨(cs.drop off).take d.sz, cs.drop (off + d.sz), ?_, ha, hb⟩, hg, hg2⟩
  rw [← List.drop_drop, List.take_append_drop]
/-- A struct, by its fields in line; 'f' takes it apart, 'g' puts it together. -/
theorem opens_struct {α β : Type} {t : TypeId} {fs : Array Field} {d : Kd α} {f : β → α} (g : α → β) {good : α → Prop} {good' : β → Prop} (ht : P.underlying t = some (.struct fs)) (hc : P.cellsOf t = d.sz) (hfg : ∀ a, f (g a) = a)
    (hgood : ∀ a, good a → good' (g a)) (h : OpensF enc P W 0 fs.toList d good) : Opens enc P W t (Kd.iso d f) good' := by
  refine ⟨hc, fun fuel cs x hx => ?_⟩
  obtain ⟨xs, n, _, _, hl, hlen, hf⟩ := DataW.trod_struct ht hx
  obtain ⟨a, ha, hga⟩ := h n cs (by omega) (by
    intro fd hfd
    obtain ⟨i, hi⟩ := List.getElem?_of_mem hfd
    have hi' : fs[i]? = some fd := by rw [← Array.getElem?_toList]; exact hi
    have hx := hf i fd hi'
    have hlt : i < xs.length := by have := (Array.getElem?_eq_some_iff.1 hi').1; omega
    rw [List.getElem?_eq_getElem hlt] at hx
    exact ⟨_, hx⟩)
  refine ⟨g a, ?_, hgood a hga⟩
  show d.K W (f (g a)) cs
  rw [hfg]
  simpa using ha
/-- A value that is read at a type: its datum. -/
theorem Opens.of {α : Type} {t : TypeId} {d : Kd α} {good : α → Prop} (h : Opens enc P W t d good) {v : Value} {x : DataW H} {ps : List MemPlace} (ht : DataW.Trod enc P W 0 (fun _ => true) true t v x ps) : ∃ a, d.K W a v.cells.toList ∧ good a := by
  obtain ⟨fuel, hf⟩ := ht
  exact h.2 _ _ _ hf
theorem cells_agg (cs : Array Value) : (Value.agg cs).cells.toList = cs.toList := rfl
theorem agg_of {v : Value} {cs : Array Value} {l : List Value} (hv : v = .agg cs) (h : v.cells.toList = l) : v = .agg l.toArray := by
  subst hv
  rw [cells_agg] at h
  rw [← h]
theorem slice_of {v : Value} {a : Option Addr} {n c : Nat} {l : List Value} (hv : v = .slice a n c) (h : v.cells.toList = l) : l = [.slice a n c] := by
  subst hv
  exact h.symm
end
end Go.Proofs.Ytobcmccoadeocaa.Opens
