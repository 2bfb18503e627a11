/- The program's Arrange answers what the reference's Arrange answers, for every state and kind; no condition. -/
import Derived.Test.YtffmebjogdemhaaPFnExactArrangex0
import Derived.Test.YtffmebjogdemhaaPFnExactArrangex1
import Derived.Test.YtffmebjogdemhaaPFnExactArrangex2
import Derived.Laws.BitsLemmas
set_option linter.unusedVariables false
set_option linter.unusedSimpArgs false
set_option maxRecDepth 4000
namespace Go.Proofs.Ytffmebjogdemhaa.Pure
open Go.RowKit Go.Proofs.Ytffmebjogdemhaa.PFnExactArrange Go.Proofs.YtffmebjogdemhaaW.PrintWords Go.Proofs.YtffmebjogdemhaaW.PrintLast Go.Proofs.YtffmebjogdemhaaW.PrintMore

/-! ### tools: what a printed function comes to -/
theorem evSucc {α : Type} {g : Nat → Option α} {r : α} (h : Ev (fun k => g (k + 1)) r) : Ev g r := Ev.step (fun _ => rfl) h
theorem evPos {α : Type} {c : Prop} {dc : Decidable c} {a b : Nat → Option α} {r : α} (h : c) (e : Ev a r) : Ev (fun k => if c then a k else b k) r :=
  Ev.congr (fun _ => if_pos h) e
theorem evNeg {α : Type} {c : Prop} {dc : Decidable c} {a b : Nat → Option α} {r : α} (h : ¬ c) (e : Ev b r) : Ev (fun k => if c then a k else b k) r :=
  Ev.congr (fun _ => if_neg h) e
theorem evSplit {α : Type} {c : Prop} {dc : Decidable c} {a b : Nat → Option α} {r : α} (h : c → Ev a r) (h' : ¬ c → Ev b r) : Ev (fun k => if c then a k else b k) r := by
  by_cases hc : c
  · exact evPos hc (h hc)
  · exact evNeg hc (h' hc)
theorem evBind {α β : Type} {g : Nat → Option α} {f : Nat → α → Option β} {a : α} {r : β} (h : Ev g a) (k : Ev (fun n => f n a) r) : Ev (fun n => (g n).bind (f n)) r := Ev.bind h k
theorem evPut {α β : Type} {o : Option α} {f : Nat → α → Option β} {a : α} {r : β} (h : o = some a) (k : Ev (fun n => f n a) r) : Ev (fun n => o.bind (f n)) r :=
  Ev.congr (fun _ => by rw [h]; rfl) k
theorem evNow {α : Type} {r r' : α} (h : r = r') : Ev (fun _ => some r) r' := h ▸ Ev.now r
theorem evOf {α : Type} {o : Option α} {r : α} (h : o = some r) : Ev (fun _ => o) r := ⟨0, fun _ _ => h⟩
theorem evEnds {α : Type} {g : Nat → Option α} {r : α} (h : Ev g r) : ∃ k, g k = some r := Ev.rounds h
theorem w64 {x : Int} (h : -9223372036854775808 ≤ x) (h' : x ≤ 9223372036854775807) : wrap64 x = x := by unfold wrap64; omega
theorem w64succ (i : Nat) (h : i < 4611686018427387904) : wrap64 ((i : Int) + 1) = ((i + 1 : Nat) : Int) := by unfold wrap64; omega
theorem wfI {x : Int} (h : (Lit.int .i64 x).wf = true) : -9223372036854775808 ≤ x ∧ x ≤ 9223372036854775807 := by
  simp only [Lit.wf, IntKind.min, IntKind.max, IntKind.bits, IntKind.signed, Bool.and_eq_true, decide_eq_true_eq] at h
  simpa using h
theorem wfB {x : Int} (h : (Lit.int .u8 x).wf = true) : 0 ≤ x ∧ x ≤ 255 := by
  simp only [Lit.wf, IntKind.min, IntKind.max, IntKind.bits, IntKind.signed, Bool.and_eq_true, decide_eq_true_eq] at h
  simpa using h
theorem rdN (l : List Int) (i : Nat) (h : i < l.length) : rd l (i : Int) = l[i] := by simp [rd, List.getD_eq_getElem?_getD, h]
theorem fillStep {α : Type} (l : List α) (z : α) (i d : Nat) (h : i + (d + 1) = l.length) : (l.take i ++ List.replicate (d + 1) z).set i (l[i]'(by omega)) = l.take (i + 1) ++ List.replicate d z := by
  rw [List.set_append_right _ _ (by simp; omega), List.take_succ_eq_append_getElem (show i < l.length by omega), List.append_assoc]
  congr 1
  have e : i - (l.take i).length = 0 := by simp; omega
  rw [e]
  rfl

theorem arr_same (k : Nat) (a b : Int) (x : Bool) : impl_Arrange.j0 k a b x = spec_Arrange.j0 k a b x := by
  cases k with
  | zero => rfl
  | succ k =>
    cases k with
    | zero => simp only [impl_Arrange.j0, spec_Arrange.j0, impl_Arrange.j1, spec_Arrange.j1]
    | succ k =>
      cases k with
      | zero => simp only [impl_Arrange.j0, spec_Arrange.j0, impl_Arrange.j1, spec_Arrange.j1, impl_Arrange.j2, spec_Arrange.j2]
      | succ k =>
        cases k with
        | zero => simp only [impl_Arrange.j0, spec_Arrange.j0, impl_Arrange.j1, spec_Arrange.j1, impl_Arrange.j2, spec_Arrange.j2, impl_Arrange.j3, spec_Arrange.j3]
        | succ k => simp only [impl_Arrange.j0, spec_Arrange.j0, impl_Arrange.j1, spec_Arrange.j1, impl_Arrange.j2, spec_Arrange.j2, impl_Arrange.j3, spec_Arrange.j3]
theorem arr_sameF (k : Nat) (a b : Int) : impl_Arrange.f k a b = spec_Arrange.f k a b := by
  simp only [impl_Arrange.f, spec_Arrange.f, arr_same]
theorem arr_some3 (k : Nat) (a b : Int) (x : Bool) : ∃ r, spec_Arrange.j3 (k + 1) a b x = some r := by
  simp only [spec_Arrange.j3]
  repeat' split
  all_goals exact ⟨_, rfl⟩
theorem arr_some2 (k : Nat) (a b : Int) (x : Bool) : ∃ r, spec_Arrange.j2 (k + 2) a b x = some r := by
  simp only [spec_Arrange.j2]
  repeat' split
  all_goals first | exact ⟨_, rfl⟩ | exact arr_some3 k _ _ _
theorem arr_some1 (k : Nat) (a b : Int) (x : Bool) : ∃ r, spec_Arrange.j1 (k + 3) a b x = some r := by
  simp only [spec_Arrange.j1]
  repeat' split
  all_goals first | exact ⟨_, rfl⟩ | exact arr_some2 k _ _ _
theorem arr_some0 (k : Nat) (a b : Int) (x : Bool) : ∃ r, spec_Arrange.j0 (k + 4) a b x = some r := by
  simp only [spec_Arrange.j0]
  repeat' split
  all_goals first | exact ⟨_, rfl⟩ | exact arr_some1 k _ _ _
theorem arr_some (k : Nat) (a b : Int) : ∃ r, spec_Arrange.f (k + 4) a b = some r := by
  simp only [spec_Arrange.f]
  repeat' split
  all_goals exact arr_some0 k _ _ _

theorem FnExactArrange : laws_FnExactArrange.Pure := by
  intro a b _ _
  obtain ⟨r, hr⟩ := arr_some 0 a b
  refine ⟨0 + 4, ?_⟩
  unfold laws_FnExactArrange.f
  rw [arr_sameF, hr]
  simp

end Go.Proofs.Ytffmebjogdemhaa.Pure
