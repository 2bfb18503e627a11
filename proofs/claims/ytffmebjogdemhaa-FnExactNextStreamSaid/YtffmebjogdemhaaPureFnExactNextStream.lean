/- The program's NextStream answers what the reference's answers, for every list; no condition. -/
import Derived.Test.YtffmebjogdemhaaPFnExactNextStreamx0
import Derived.Test.YtffmebjogdemhaaPFnExactNextStreamx1
import Derived.Test.YtffmebjogdemhaaPFnExactNextStreamx2
import Derived.Test.YtffmebjogdemhaaPFnExactNextStreamx3
import Derived.Test.YtffmebjogdemhaaStmtFnExactNextStream
import Derived.Laws.BitsLemmas
set_option linter.unusedVariables false
set_option linter.unusedSimpArgs false
set_option maxRecDepth 4000
namespace Go.Proofs.Ytffmebjogdemhaa.Pure
open Go.RowKit Go.Proofs.Ytffmebjogdemhaa.PFnExactNextStream Go.Proofs.YtffmebjogdemhaaW.PrintWords Go.Proofs.YtffmebjogdemhaaW.PrintLast Go.Proofs.YtffmebjogdemhaaW.PrintMore

/-! ### tools: what a printed function comes to -/
theorem evSucc {α : Type} {g : Nat → Option α} {r : α} (h : Ev (fun k => g (k + 1)) r) : Ev g r := Ev.step (fun _ => rfl) h
theorem evPos {α : Type} {c : Prop} {dc : Decidable c} {a b : Nat → Option α} {r : α} (h : c) (e : Ev a r) : Ev (fun k => if c then a k else b k) r :=
  Ev.congr (fun _ => if_pos h) e
theorem evNeg {α : Type} {c : Prop} {dc : Decidable c} {a b : Nat → Option α} {r : α} (h : ¬ c) (e : Ev b r) : Ev (fun k => if c then a k else b k) r :=
  Ev.congr (fun _ => if_neg h) e
theorem evSplit {α : Type} {c : Prop} {dc : Decidable c} {a b : Nat → Option α} {r : α} (h : c → Ev a r) (h' : ¬ c → Ev b r) : Ev (fun k => if c then a k else b k) r := by
  by_cases hc : c
  · exact evPos hc (h hc)
  · exact evNeg hc (h' hc)
theorem evBind {α β : Type} {g : Nat → Option α} {f : Nat → α → Option β} {a : α} {r : β} (h : Ev g a) (k : Ev (fun n => f n a) r) : Ev (fun n => (g n).bind (f n)) r := Ev.bind h k
theorem evPut {α β : Type} {o : Option α} {f : Nat → α → Option β} {a : α} {r : β} (h : o = some a) (k : Ev (fun n => f n a) r) : Ev (fun n => o.bind (f n)) r :=
  Ev.congr (fun _ => by rw [h]; rfl) k
theorem evNow {α : Type} {r r' : α} (h : r = r') : Ev (fun _ => some r) r' := h ▸ Ev.now r
theorem evOf {α : Type} {o : Option α} {r : α} (h : o = some r) : Ev (fun _ => o) r := ⟨0, fun _ _ => h⟩
theorem evEnds {α : Type} {g : Nat → Option α} {r : α} (h : Ev g r) : ∃ k, g k = some r := Ev.rounds h
theorem w64 {x : Int} (h : -9223372036854775808 ≤ x) (h' : x ≤ 9223372036854775807) : wrap64 x = x := by unfold wrap64; omega
theorem w64succ (i : Nat) (h : i < 4611686018427387904) : wrap64 ((i : Int) + 1) = ((i + 1 : Nat) : Int) := by unfold wrap64; omega
theorem wfI {x : Int} (h : (Lit.int .i64 x).wf = true) : -9223372036854775808 ≤ x ∧ x ≤ 9223372036854775807 := by
  simp only [Lit.wf, IntKind.min, IntKind.max, IntKind.bits, IntKind.signed, Bool.and_eq_true, decide_eq_true_eq] at h
  simpa using h
theorem wfB {x : Int} (h : (Lit.int .u8 x).wf = true) : 0 ≤ x ∧ x ≤ 255 := by
  simp only [Lit.wf, IntKind.min, IntKind.max, IntKind.bits, IntKind.signed, Bool.and_eq_true, decide_eq_true_eq] at h
  simpa using h
theorem rdN (l : List Int) (i : Nat) (h : i < l.length) : rd l (i : Int) = l[i] := by simp [rd, List.getD_eq_getElem?_getD, h]
theorem fillStep {α : Type} (l : List α) (z : α) (i d : Nat) (h : i + (d + 1) = l.length) : (l.take i ++ List.replicate (d + 1) z).set i (l[i]'(by omega)) = l.take (i + 1) ++ List.replicate d z := by
  rw [List.set_append_right _ _ (by simp; omega), List.take_succ_eq_append_getElem (show i < l.length by omega), List.append_assoc]
  congr 1
  have e : i - (l.take i).length = 0 := by simp; omega
  rw [e]
  rfl

/-! ### which stream comes next -/
theorem ahead_same (a b c : Int) (d : Bool) (a' b' c' : Int) (d' : Bool) : impl_sooner.f a b c d a' b' c' d' = spec_l15Ahead.f a b c d a' b' c' d' := by
  unfold impl_sooner.f spec_l15Ahead.f
  cases d <;> cases d' <;> simp
theorem ahead_some (a b c : Int) (d : Bool) (a' b' c' : Int) (d' : Bool) : ∃ r, spec_l15Ahead.f a b c d a' b' c' d' = some r := by
  unfold spec_l15Ahead.f
  repeat' split
  all_goals exact ⟨_, rfl⟩
theorem ahead_self (a b c : Int) (d : Bool) : spec_l15Ahead.f a b c d a b c d = some false := by
  unfold spec_l15Ahead.f
  cases d <;> simp
theorem ns_loop (l : List S73) (hl : l.length < 4611686018427387904) : ∀ (d i best : Nat), i + d = l.length → best < l.length →
    ∃ r : Int, Ev (fun k => spec_NextStream.l0 k l (best : Int) (i : Int)) r ∧ Ev (fun k => impl_NextStream.l0 k l (best : Int) l (l.length : Int) (i : Int)) r := by
  intro d
  induction d with
  | zero =>
    intro i best h hb
    refine ⟨best, evSucc ?_, evSucc ?_⟩
    · simp only [spec_NextStream.l0]
      exact evNeg (by omega) (Ev.now _)
    · simp only [impl_NextStream.l0]
      exact evNeg (by omega) (Ev.now _)
  | succ d ih =>
    intro i best h hb
    obtain ⟨x, hx⟩ := ahead_some (rd_T73 l (i : Int)).f0 (rd_T73 l (i : Int)).f1 (rd_T73 l (i : Int)).f2 (rd_T73 l (i : Int)).f3 (rd_T73 l (best : Int)).f0 (rd_T73 l (best : Int)).f1 (rd_T73 l (best : Int)).f2 (rd_T73 l (best : Int)).f3
    obtain ⟨r, h1, h2⟩ := ih (i + 1) (if x = true then i else best) (by omega) (by split <;> omega)
    refine ⟨r, evSucc ?_, evSucc ?_⟩
    · simp only [spec_NextStream.l0]
      refine evPos (by omega) (evPos (by omega) (evPos (by omega) (evPos (by omega) (evPut hx ?_))))
      rw [w64succ i (by omega)]
      cases x
      · refine evNeg (by simp) ?_
        simpa using h1
      · refine evPos rfl ?_
        simpa using h1
    · simp only [impl_NextStream.l0]
      refine evPos (by omega) (evPos (by omega) (evPos (by omega) (evPos (by omega) (evPos (by omega) (evPut ((ahead_same _ _ _ _ _ _ _ _).trans hx) ?_)))))
      rw [w64succ i (by omega)]
      cases x
      · refine evNeg (by simp) ?_
        simpa using h2
      · refine evPos rfl ?_
        simpa using h2
theorem nextStream_same (l : List S73) (hl : l.length < 4611686018427387904) : ∃ r : Int, Ev (fun k => spec_NextStream.f k l) r ∧ Ev (fun k => impl_NextStream.f k l) r := by
  have sj : ∀ x, x = true → Ev (fun k => spec_NextStream.j0 k l x) (-1) := by
    intro x hx
    refine evSucc ?_
    simp only [spec_NextStream.j0]
    exact evPos hx (Ev.now _)
  have ij : ∀ x, x = true → Ev (fun k => impl_NextStream.j0 k l x) (-1) := by
    intro x hx
    refine evSucc ?_
    simp only [impl_NextStream.j0]
    exact evPos hx (Ev.now _)
  unfold spec_NextStream.f impl_NextStream.f
  by_cases h0 : (l.length : Int) = 0
  · exact ⟨-1, evPos h0 (sj _ rfl), evPos h0 (ij _ rfl)⟩
  · by_cases h1 : (l.length : Int) > 4096
    · exact ⟨-1, evNeg h0 (sj _ (decide_eq_true h1)), evNeg h0 (ij _ (decide_eq_true h1))⟩
    · obtain ⟨r, h2, h3⟩ := ns_loop l hl (l.length - 1) 1 0 (by omega) (by omega)
      refine ⟨r, evNeg h0 (evSucc ?_), evNeg h0 (evSucc ?_)⟩
      · simp only [spec_NextStream.j0]
        exact evNeg (by simpa using h1) h2
      · simp only [impl_NextStream.j0]
        refine evNeg (by simpa using h1) (evSucc ?_)
        simp only [impl_NextStream.l0]
        refine evPos (by omega) (evPos (by omega) (evPos (by omega) (evPos (by omega) (evPos (by omega) (evPut ((ahead_same _ _ _ _ _ _ _ _).trans (ahead_self _ _ _ _)) (evNeg (by simp) ?_))))))
        rw [w64 (x := 0 + 1) (by omega) (by omega)]
        exact h3

def ofW (x : S99) : S73 := ⟨x.f0, x.f1, x.f2, x.f3⟩
theorem toW_loop (l : List S99) (hl : l.length < 4611686018427387904) : ∀ (d i : Nat), i + d = l.length → Ev (fun k => laws_toWaitingS.l0 k l ((l.map ofW).take i ++ List.replicate d z73) (i : Int)) (l.map ofW) := by
  intro d
  induction d with
  | zero =>
    intro i h
    refine evSucc ?_
    simp only [laws_toWaitingS.l0]
    refine evNeg (by omega) (evNow ?_)
    rw [List.take_of_length_le (by simp; omega)]; simp
  | succ d ih =>
    intro i h
    refine evSucc ?_
    simp only [laws_toWaitingS.l0, laws_toWaiting.f]
    refine evPos (by omega) (evPos (by omega) (evPut rfl (evPos (by simp; omega) ?_)))
    have e : (⟨(rd_T99 l (i : Int)).f0, (rd_T99 l (i : Int)).f1, (rd_T99 l (i : Int)).f2, (rd_T99 l (i : Int)).f3⟩ : S73) = (l.map ofW)[i]'(by simp; omega) := by
      simp [rd_T99, List.getD_eq_getElem?_getD, ofW, show i < l.length by omega]
    rw [w64succ i (by omega), Int.toNat_natCast]
    show Ev (fun k => laws_toWaitingS.l0 k l (((l.map ofW).take i ++ List.replicate (d + 1) z73).set i ⟨(rd_T99 l (i : Int)).f0, (rd_T99 l (i : Int)).f1, (rd_T99 l (i : Int)).f2, (rd_T99 l (i : Int)).f3⟩) _) _
    rw [e, fillStep (l.map ofW) _ i d (by simp; omega)]
    exact ih (i + 1) (by omega)
theorem toW (l : List S99) (hl : l.length ≤ 1048576) : Ev (fun k => laws_toWaitingS.f k l) (l.map ofW) := by
  unfold laws_toWaitingS.f
  refine evPos (by omega) (evPos (by omega) ?_)
  have := toW_loop l (by omega) l.length 0 (by omega)
  simpa using this
theorem eqW1 (x : S73) : laws_eqWaiting.f x.f0 x.f1 x.f2 x.f3 x.f0 x.f1 x.f2 x.f3 = some true := by
  unfold laws_eqWaiting.f; simp
theorem eqW_loop (l : List S73) (hl : l.length < 4611686018427387904) : ∀ (d i : Nat), i + d = l.length → Ev (fun k => laws_eqWaitingS.l0 k l l (i : Int)) true := by
  intro d
  induction d with
  | zero =>
    intro i h
    refine evSucc ?_
    simp only [laws_eqWaitingS.l0]
    exact evNeg (by omega) (Ev.now _)
  | succ d ih =>
    intro i h
    refine evSucc ?_
    simp only [laws_eqWaitingS.l0]
    refine evPos (by omega) (evPos (by omega) (evPos (by omega) (evPut (eqW1 _) (evPos rfl ?_))))
    rw [w64succ i (by omega)]
    exact ih (i + 1) (by omega)
theorem eqW (l : List S73) (hl : l.length < 4611686018427387904) : Ev (fun k => laws_eqWaitingS.f k l l) true := by
  unfold laws_eqWaitingS.f
  exact evPos rfl (eqW_loop l hl l.length 0 (by omega))

theorem FnExactNextStream : laws_FnExactNextStream.Stmt := by
  intro l ⟨hl, _⟩
  unfold maxLen at hl
  refine evEnds ?_
  unfold laws_FnExactNextStream.f laws_szWaitingS.f
  rw [w64 (x := 1048576 - (l.length : Int)) (by omega) (by omega)]
  by_cases h : 1048576 - (l.length : Int) < 0
  · rw [if_pos h]
    exact evPut rfl (evPos (by omega) (Ev.now _))
  · rw [if_neg h]
    obtain ⟨r, h1, h2⟩ := nextStream_same (l.map ofW) (by simp; omega)
    refine evPut rfl (evNeg h (evBind (toW l (by omega)) (evBind h1 (evBind (toW l (by omega)) (evBind h2 (evPos rfl (evBind (toW l (by omega)) (evBind (eqW _ (by simp; omega)) (evPos rfl (Ev.now _))))))))))

end Go.Proofs.Ytffmebjogdemhaa.Pure
