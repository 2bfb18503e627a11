/- The program's ParamsOK answers what the reference's ParamsOK answers, for all parameters of either side; no condition. -/
import Derived.Test.YtjhcphcjpndciaaPFnExactParamsOKx0
import Derived.Test.YtjhcphcjpndciaaPFnExactParamsOKx1
import Derived.Test.YtjhcphcjpndciaaPFnExactParamsOKx2
import Derived.Test.YtjhcphcjpndciaaPFnExactParamsOKx3
import Derived.Test.YtjhcphcjpndciaaPFnExactParamsOKx4
import Derived.Test.YtjhcphcjpndciaaStmtFnExactParamsOK
import Derived.Laws.BitsLemmas
import Derived.Laws.BitsAllLaws
set_option linter.unusedVariables false
set_option linter.unusedSimpArgs false
set_option maxRecDepth 4000
namespace Go.Proofs.Ytjhcphcjpndciaa.Pure
open Go.RowKit Go.Proofs.Ytjhcphcjpndciaa.PFnExactParamsOK Go.Proofs.YtjhcphcjpndciaaW.PrintWords Go.Proofs.YtjhcphcjpndciaaW.PrintLast Go.Proofs.YtjhcphcjpndciaaW.PrintMore

/-! ### tools: what a printed function comes to -/
theorem evSucc {α : Type} {g : Nat → Option α} {r : α} (h : Ev (fun k => g (k + 1)) r) : Ev g r := Ev.step (fun _ => rfl) h
theorem evPos {α : Type} {c : Prop} {dc : Decidable c} {a b : Nat → Option α} {r : α} (h : c) (e : Ev a r) : Ev (fun k => if c then a k else b k) r :=
  Ev.congr (fun _ => if_pos h) e
theorem evNeg {α : Type} {c : Prop} {dc : Decidable c} {a b : Nat → Option α} {r : α} (h : ¬ c) (e : Ev b r) : Ev (fun k => if c then a k else b k) r :=
  Ev.congr (fun _ => if_neg h) e
theorem evSplit {α : Type} {c : Prop} {dc : Decidable c} {a b : Nat → Option α} {r : α} (h : c → Ev a r) (h' : ¬ c → Ev b r) : Ev (fun k => if c then a k else b k) r := by
  by_cases hc : c
  · exact evPos hc (h hc)
  · exact evNeg hc (h' hc)
theorem evBind {α β : Type} {g : Nat → Option α} {f : Nat → α → Option β} {a : α} {r : β} (h : Ev g a) (k : Ev (fun n => f n a) r) : Ev (fun n => (g n).bind (f n)) r := Ev.bind h k
theorem evPut {α β : Type} {o : Option α} {f : Nat → α → Option β} {a : α} {r : β} (h : o = some a) (k : Ev (fun n => f n a) r) : Ev (fun n => o.bind (f n)) r :=
  Ev.congr (fun _ => by rw [h]; rfl) k
theorem evNow {α : Type} {r r' : α} (h : r = r') : Ev (fun _ => some r) r' := h ▸ Ev.now r
theorem evOf {α : Type} {o : Option α} {r : α} (h : o = some r) : Ev (fun _ => o) r := ⟨0, fun _ _ => h⟩
theorem evEnds {α : Type} {g : Nat → Option α} {r : α} (h : Ev g r) : ∃ k, g k = some r := Ev.rounds h
theorem w64 {x : Int} (h : -9223372036854775808 ≤ x) (h' : x ≤ 9223372036854775807) : wrap64 x = x := by unfold wrap64; omega
theorem w64succ (i : Nat) (h : i < 4611686018427387904) : wrap64 ((i : Int) + 1) = ((i + 1 : Nat) : Int) := by unfold wrap64; omega
theorem wfI {x : Int} (h : (Lit.int .i64 x).wf = true) : -9223372036854775808 ≤ x ∧ x ≤ 9223372036854775807 := by
  simp only [Lit.wf, IntKind.min, IntKind.max, IntKind.bits, IntKind.signed, Bool.and_eq_true, decide_eq_true_eq] at h
  simpa using h
theorem wfB {x : Int} (h : (Lit.int .u8 x).wf = true) : 0 ≤ x ∧ x ≤ 255 := by
  simp only [Lit.wf, IntKind.min, IntKind.max, IntKind.bits, IntKind.signed, Bool.and_eq_true, decide_eq_true_eq] at h
  simpa using h
theorem rdN (l : List Int) (i : Nat) (h : i < l.length) : rd l (i : Int) = l[i] := by simp [rd, List.getD_eq_getElem?_getD, h]
theorem fillStep {α : Type} (l : List α) (z : α) (i d : Nat) (h : i + (d + 1) = l.length) : (l.take i ++ List.replicate (d + 1) z).set i (l[i]'(by omega)) = l.take (i + 1) ++ List.replicate d z := by
  rw [List.set_append_right _ _ (by simp; omega), List.take_succ_eq_append_getElem (show i < l.length by omega), List.append_assoc]
  congr 1
  have e : i - (l.take i).length = 0 := by simp; omega
  rw [e]
  rfl
theorem evCast {α : Type} {g : Nat → Option α} {r r' : α} (h : Ev g r') (e : r' = r) : Ev g r := e ▸ h

/-! ### the laws' own helpers on bytes -/
theorem eqB_loop (l : List Int) (hl : l.length < 4611686018427387904) : ∀ (d i : Nat), i + d = l.length → Ev (fun k => laws_eqByteS.l0 k l l (i : Int)) true := by
  intro d
  induction d with
  | zero =>
    intro i h
    refine evSucc ?_
    simp only [laws_eqByteS.l0]
    exact evNeg (by omega) (Ev.now _)
  | succ d ih =>
    intro i h
    refine evSucc ?_
    simp only [laws_eqByteS.l0]
    refine evPos (by omega) (evPos (by omega) (evPos (by omega) (evPos (by first | rfl | trivial) ?_)))
    rw [w64succ i (by omega)]
    exact ih (i + 1) (by omega)
theorem eqB (l : List Int) (hl : l.length < 4611686018427387904) : Ev (fun k => laws_eqByteS.f k l l) true := by
  unfold laws_eqByteS.f
  exact evPos rfl (eqB_loop l hl l.length 0 (by omega))

theorem toB_loop (l : List Int) (hl : l.length < 4611686018427387904) : ∀ (d i : Nat), i + d = l.length → Ev (fun k => laws_toByteS.l0 k l (l.take i ++ List.replicate d 0) (i : Int)) l := by
  intro d
  induction d with
  | zero =>
    intro i h
    refine evSucc ?_
    simp only [laws_toByteS.l0]
    refine evNeg (by omega) (evNow ?_)
    simp [List.take_of_length_le (show l.length ≤ i by omega)]
  | succ d ih =>
    intro i h
    refine evSucc ?_
    simp only [laws_toByteS.l0]
    refine evPos (by omega) (evPos (by omega) (evPos (by simp; omega) ?_))
    rw [w64succ i (by omega), rdN l i (by omega), Int.toNat_natCast, fillStep l 0 i d h]
    exact ih (i + 1) (by omega)
theorem toB (l : List Int) (hl : l.length ≤ 140737488351232) : Ev (fun k => laws_toByteS.f k l) l := by
  unfold laws_toByteS.f
  refine evPos (by omega) (evPos (by omega) ?_)
  have := toB_loop l (by omega) l.length 0 (by omega)
  simpa using this

theorem szB (l : List Int) (a : Int) (h : l.length ≤ maxLen) (h0 : 0 ≤ a) (h1 : a ≤ 1048576) : laws_szByteS.f l a = some (if a - (l.length : Int) < 0 then -1 else a - (l.length : Int)) := by
  unfold maxLen at h
  unfold laws_szByteS.f
  rw [w64 (x := a - (l.length : Int)) (by omega) (by omega)]
  split <;> rfl
theorem szParams (a b c d e f g h i : Int) (m : Bool) (p q r : List Int) (hp : p.length ≤ maxLen) (hq : q.length ≤ maxLen) (hr : r.length ≤ maxLen) :
    ∃ v, laws_szParams.f a b c d e f g h i m p q r 1048576 = some v ∧ (0 ≤ v → p.length ≤ 1048576 ∧ q.length ≤ 1048576 ∧ r.length ≤ 1048576) := by
  unfold laws_szParams.f
  by_cases h1 : 1048576 - (p.length : Int) < 0
  · refine ⟨-1, ?_, by omega⟩
    rw [szB p _ hp (by omega) (by omega), if_pos h1]
    rfl
  · by_cases h2 : 1048576 - (p.length : Int) - (q.length : Int) < 0
    · refine ⟨-1, ?_, by omega⟩
      rw [szB p _ hp (by omega) (by omega), if_neg h1]
      simp only [Option.bind_some]
      rw [if_neg h1, szB q _ hq (by omega) (by omega), if_pos h2]
      rfl
    · by_cases h3 : 1048576 - (p.length : Int) - (q.length : Int) - (r.length : Int) < 0
      · refine ⟨-1, ?_, by omega⟩
        rw [szB p _ hp (by omega) (by omega), if_neg h1]
        simp only [Option.bind_some]
        rw [if_neg h1, szB q _ hq (by omega) (by omega), if_neg h2]
        simp only [Option.bind_some]
        rw [if_neg h2, szB r _ hr (by omega) (by omega), if_pos h3]
        rfl
      · refine ⟨1048576 - (p.length : Int) - (q.length : Int) - (r.length : Int), ?_, fun _ => by omega⟩
        rw [szB p _ hp (by omega) (by omega), if_neg h1]
        simp only [Option.bind_some]
        rw [if_neg h1, szB q _ hq (by omega) (by omega), if_neg h2]
        simp only [Option.bind_some]
        rw [if_neg h2, szB r _ hr (by omega) (by omega), if_neg h3]
        simp only [Option.bind_some]
        rw [if_neg h3]
theorem toParams (a b c d e f g h i : Int) (m : Bool) (p q r : List Int) (hp : p.length ≤ 1048576) (hq : q.length ≤ 1048576) (hr : r.length ≤ 1048576) :
    Ev (fun k => laws_toParams.f k a b c d e f g h i m p q r) (a, b, c, d, e, f, g, h, i, m, p, q, r) := by
  unfold laws_toParams.f
  exact evBind (toB p (by omega)) (evBind (toB q (by omega)) (evBind (toB r (by omega)) (Ev.now _)))
theorem eqParams (a b c d e f g h i : Int) (m : Bool) (p q r : List Int) (hp : p.length ≤ 1048576) (hq : q.length ≤ 1048576) (hr : r.length ≤ 1048576) :
    Ev (fun k => laws_eqParams.f k a b c d e f g h i m p q r a b c d e f g h i m p q r) true := by
  unfold laws_eqParams.f
  exact evPos rfl (evPos rfl (evPos rfl (evPos rfl (evPos rfl (evPos rfl (evPos rfl (evPos rfl (evPos rfl (evNeg (by simp) (evBind (eqB p (by omega)) (evPos rfl (evBind (eqB q (by omega)) (evPos rfl (evBind (eqB r (by omega)) (evPos rfl (Ev.now _))))))))))))))))
theorem nums_rest (a b c d e f g h i : Int) : impl_ParamsOK.nums a b c d e f g h i = spec_ParamsOK.rest a b c d e f g h i := by
  rw [Bool.eq_iff_iff]
  simp only [impl_ParamsOK.nums, spec_ParamsOK.rest, impl_ParamsOK.okAt, Bool.and_eq_true, decide_eq_true_eq]
  constructor <;> intro h <;> omega
theorem first_bad (p q r : List Int) (s : Bool) : spec_ParamsOK.first p q r s = (impl_ParamsOK.bad p q r || !(s || (((p.length : Int) == 0) && ((q.length : Int) == 0)))) := by
  unfold spec_ParamsOK.first impl_ParamsOK.bad
  have e : ∀ n : Nat, decide (0 < (n : Int)) = !((n : Int) == 0) := fun n => by
    cases n with
    | zero => rfl
    | succ n => rw [decide_eq_true (by omega), beq_eq_false_iff_ne.2 (by omega)]; rfl
  rw [e, e, show ((q.length : Int) != 0) = !((q.length : Int) == 0) from rfl]
  generalize ((p.length : Int) == 0) = a
  generalize ((q.length : Int) == 0) = b
  generalize ((q.length : Int) != 8) = c
  generalize decide (8 < (p.length : Int)) = d
  generalize decide (8 < (r.length : Int)) = f
  cases s <;> cases a <;> cases b <;> cases c <;> cases d <;> cases f <;> rfl
theorem paramsOK (a b c d e f g h i : Int) (m : Bool) (p q r : List Int) (s : Bool) : spec_ParamsOK.f a b c d e f g h i m p q r s = impl_ParamsOK.f a b c d e f g h i m p q r s := by
  unfold spec_ParamsOK.f impl_ParamsOK.f
  rw [nums_rest, first_bad]
  cases spec_ParamsOK.rest a b c d e f g h i <;> cases impl_ParamsOK.bad p q r <;> cases (s || (((p.length : Int) == 0) && ((q.length : Int) == 0))) <;> rfl
theorem paramsOK_some (a b c d e f g h i : Int) (m : Bool) (p q r : List Int) (s : Bool) : ∃ v, impl_ParamsOK.f a b c d e f g h i m p q r s = some v := by
  unfold impl_ParamsOK.f
  split
  · split <;> exact ⟨_, rfl⟩
  · exact ⟨_, rfl⟩

theorem FnExactParamsOK : laws_FnExactParamsOK.Stmt := by
  intro x s hx _
  obtain ⟨_, _, _, _, _, _, _, _, _, _, ⟨hp, _⟩, ⟨hq, _⟩, ⟨hr, _⟩⟩ := hx
  refine evEnds ?_
  unfold laws_FnExactParamsOK.f
  obtain ⟨v, hv, hb⟩ := szParams x.f0 x.f1 x.f2 x.f3 x.f4 x.f5 x.f6 x.f7 x.f8 x.f9 x.f10 x.f11 x.f12 hp hq hr
  refine evPut hv (evSplit (fun _ => Ev.now _) (fun h => ?_))
  obtain ⟨b0, b1, b2⟩ := hb (by omega)
  have t := toParams x.f0 x.f1 x.f2 x.f3 x.f4 x.f5 x.f6 x.f7 x.f8 x.f9 x.f10 x.f11 x.f12 b0 b1 b2
  obtain ⟨g, hg⟩ := paramsOK_some x.f0 x.f1 x.f2 x.f3 x.f4 x.f5 x.f6 x.f7 x.f8 x.f9 x.f10 x.f11 x.f12 s
  have hg2 := (paramsOK x.f0 x.f1 x.f2 x.f3 x.f4 x.f5 x.f6 x.f7 x.f8 x.f9 x.f10 x.f11 x.f12 s).trans hg
  exact evBind t (evPut hg2 (evBind t (evPut hg (evNeg (by simp) (evBind t (evBind (eqParams x.f0 x.f1 x.f2 x.f3 x.f4 x.f5 x.f6 x.f7 x.f8 x.f9 x.f10 x.f11 x.f12 b0 b1 b2) (evPos rfl (Ev.now _))))))))

end Go.Proofs.Ytjhcphcjpndciaa.Pure
