/- The program's ChooseVersion answers what the reference's answers, for every two lists; no condition. -/
import Derived.Test.YtffmebjogdemhaaPFnExactChooseVersionx0
import Derived.Test.YtffmebjogdemhaaPFnExactChooseVersionx1
import Derived.Test.YtffmebjogdemhaaPFnExactChooseVersionx2
import Derived.Test.YtffmebjogdemhaaStmtFnExactChooseVersion
import Derived.Laws.BitsLemmas
set_option linter.unusedVariables false
set_option linter.unusedSimpArgs false
set_option maxRecDepth 4000
namespace Go.Proofs.Ytffmebjogdemhaa.Pure
open Go.RowKit Go.Proofs.Ytffmebjogdemhaa.PFnExactChooseVersion Go.Proofs.YtffmebjogdemhaaW.PrintWords Go.Proofs.YtffmebjogdemhaaW.PrintLast Go.Proofs.YtffmebjogdemhaaW.PrintMore

/-! ### tools: what a printed function comes to -/
theorem evSucc {α : Type} {g : Nat → Option α} {r : α} (h : Ev (fun k => g (k + 1)) r) : Ev g r := Ev.step (fun _ => rfl) h
theorem evPos {α : Type} {c : Prop} {dc : Decidable c} {a b : Nat → Option α} {r : α} (h : c) (e : Ev a r) : Ev (fun k => if c then a k else b k) r :=
  Ev.congr (fun _ => if_pos h) e
theorem evNeg {α : Type} {c : Prop} {dc : Decidable c} {a b : Nat → Option α} {r : α} (h : ¬ c) (e : Ev b r) : Ev (fun k => if c then a k else b k) r :=
  Ev.congr (fun _ => if_neg h) e
theorem evSplit {α : Type} {c : Prop} {dc : Decidable c} {a b : Nat → Option α} {r : α} (h : c → Ev a r) (h' : ¬ c → Ev b r) : Ev (fun k => if c then a k else b k) r := by
  by_cases hc : c
  · exact evPos hc (h hc)
  · exact evNeg hc (h' hc)
theorem evBind {α β : Type} {g : Nat → Option α} {f : Nat → α → Option β} {a : α} {r : β} (h : Ev g a) (k : Ev (fun n => f n a) r) : Ev (fun n => (g n).bind (f n)) r := Ev.bind h k
theorem evPut {α β : Type} {o : Option α} {f : Nat → α → Option β} {a : α} {r : β} (h : o = some a) (k : Ev (fun n => f n a) r) : Ev (fun n => o.bind (f n)) r :=
  Ev.congr (fun _ => by rw [h]; rfl) k
theorem evNow {α : Type} {r r' : α} (h : r = r') : Ev (fun _ => some r) r' := h ▸ Ev.now r
theorem evOf {α : Type} {o : Option α} {r : α} (h : o = some r) : Ev (fun _ => o) r := ⟨0, fun _ _ => h⟩
theorem evEnds {α : Type} {g : Nat → Option α} {r : α} (h : Ev g r) : ∃ k, g k = some r := Ev.rounds h
theorem w64 {x : Int} (h : -9223372036854775808 ≤ x) (h' : x ≤ 9223372036854775807) : wrap64 x = x := by unfold wrap64; omega
theorem w64succ (i : Nat) (h : i < 4611686018427387904) : wrap64 ((i : Int) + 1) = ((i + 1 : Nat) : Int) := by unfold wrap64; omega
theorem wfI {x : Int} (h : (Lit.int .i64 x).wf = true) : -9223372036854775808 ≤ x ∧ x ≤ 9223372036854775807 := by
  simp only [Lit.wf, IntKind.min, IntKind.max, IntKind.bits, IntKind.signed, Bool.and_eq_true, decide_eq_true_eq] at h
  simpa using h
theorem wfB {x : Int} (h : (Lit.int .u8 x).wf = true) : 0 ≤ x ∧ x ≤ 255 := by
  simp only [Lit.wf, IntKind.min, IntKind.max, IntKind.bits, IntKind.signed, Bool.and_eq_true, decide_eq_true_eq] at h
  simpa using h
theorem rdN (l : List Int) (i : Nat) (h : i < l.length) : rd l (i : Int) = l[i] := by simp [rd, List.getD_eq_getElem?_getD, h]
theorem fillStep {α : Type} (l : List α) (z : α) (i d : Nat) (h : i + (d + 1) = l.length) : (l.take i ++ List.replicate (d + 1) z).set i (l[i]'(by omega)) = l.take (i + 1) ++ List.replicate d z := by
  rw [List.set_append_right _ _ (by simp; omega), List.take_succ_eq_append_getElem (show i < l.length by omega), List.append_assoc]
  congr 1
  have e : i - (l.take i).length = 0 := by simp; omega
  rw [e]
  rfl

/-! ### the laws' own helpers on bytes -/
theorem eqI_loop (l : List Int) (hl : l.length < 4611686018427387904) : ∀ (d i : Nat), i + d = l.length → Ev (fun k => laws_eqIntS.l0 k l l (i : Int)) true := by
  intro d
  induction d with
  | zero =>
    intro i h
    refine evSucc ?_
    simp only [laws_eqIntS.l0]
    exact evNeg (by omega) (Ev.now _)
  | succ d ih =>
    intro i h
    refine evSucc ?_
    simp only [laws_eqIntS.l0]
    refine evPos (by omega) (evPos (by omega) (evPos (by omega) (evPos (by first | rfl | trivial) ?_)))
    rw [w64succ i (by omega)]
    exact ih (i + 1) (by omega)
theorem eqI (l : List Int) (hl : l.length < 4611686018427387904) : Ev (fun k => laws_eqIntS.f k l l) true := by
  unfold laws_eqIntS.f
  exact evPos rfl (eqI_loop l hl l.length 0 (by omega))

theorem toI_loop (l : List Int) (hl : l.length < 4611686018427387904) : ∀ (d i : Nat), i + d = l.length → Ev (fun k => laws_toIntS.l0 k l (l.take i ++ List.replicate d 0) (i : Int)) l := by
  intro d
  induction d with
  | zero =>
    intro i h
    refine evSucc ?_
    simp only [laws_toIntS.l0]
    refine evNeg (by omega) (evNow ?_)
    simp [List.take_of_length_le (show l.length ≤ i by omega)]
  | succ d ih =>
    intro i h
    refine evSucc ?_
    simp only [laws_toIntS.l0]
    refine evPos (by omega) (evPos (by omega) (evPos (by simp; omega) ?_))
    rw [w64succ i (by omega), rdN l i (by omega), Int.toNat_natCast, fillStep l 0 i d h]
    exact ih (i + 1) (by omega)
theorem toI (l : List Int) (hl : l.length * 8 ≤ 140737488351232) : Ev (fun k => laws_toIntS.f k l) l := by
  unfold laws_toIntS.f
  refine evPos (by omega) (evPos (by omega) ?_)
  have := toI_loop l (by omega) l.length 0 (by omega)
  simpa using this

def pick (a b : List Int) : Int := (a.find? fun v => decide (v ∈ b)).getD 0
theorem pick_cons (x : Int) (a b : List Int) : pick (x :: a) b = if x ∈ b then x else pick a b := by
  unfold pick
  by_cases h : x ∈ b <;> simp [List.find?_cons, h]
theorem pick_nil (b : List Int) : pick [] b = 0 := rfl
theorem dropCons (l : List Int) (i : Nat) (h : i < l.length) : l.drop i = l[i] :: l.drop (i + 1) := by
  rw [List.drop_eq_getElem_cons h]
theorem memDrop (l : List Int) (i : Nat) (h : i < l.length) (v : Int) : v ∈ l.drop i ↔ v = l[i] ∨ v ∈ l.drop (i + 1) := by
  rw [dropCons l i h, List.mem_cons]
theorem idx_loop (l : List Int) (v : Int) (hl : l.length < 4611686018427387904) : ∀ (d i : Nat), i + d = l.length →
    ∃ r : Int, Ev (fun k => slices_Index_int_int.l0 k l v (l.length : Int) (i : Int)) r ∧ decide (r ≥ 0) = decide (v ∈ l.drop i) := by
  intro d
  induction d with
  | zero =>
    intro i h
    refine ⟨-1, evSucc ?_, ?_⟩
    · simp only [slices_Index_int_int.l0]
      exact evNeg (by omega) (Ev.now _)
    · simp [List.drop_of_length_le (show l.length ≤ i by omega)]
  | succ d ih =>
    intro i h
    have hd := dropCons l i (by omega)
    by_cases hv : v = l[i]'(by omega)
    · refine ⟨i, evSucc ?_, ?_⟩
      · simp only [slices_Index_int_int.l0]
        refine evPos (by omega) (evPos (by omega) (evPos (by omega) (evPos (by rw [rdN l i (by omega)]; exact hv) (Ev.now _))))
      · have : v ∈ l.drop i := (memDrop l i (by omega) v).2 (.inl hv)
        simp [this]
    · obtain ⟨r, e, hr⟩ := ih (i + 1) (by omega)
      refine ⟨r, evSucc ?_, ?_⟩
      · simp only [slices_Index_int_int.l0]
        refine evPos (by omega) (evPos (by omega) (evPos (by omega) (evNeg (by rw [rdN l i (by omega)]; exact hv) ?_)))
        rw [w64succ i (by omega)]
        exact e
      · rw [hr, decide_eq_decide, memDrop l i (by omega) v]
        exact ⟨.inr, fun h => h.resolve_left hv⟩
theorem hasI (l : List Int) (v : Int) (hl : l.length < 4611686018427387904) : Ev (fun k => slices_Contains_int_int.f k l v) (decide (v ∈ l)) := by
  obtain ⟨r, e, hr⟩ := idx_loop l v hl l.length 0 (by omega)
  unfold slices_Contains_int_int.f slices_Index_int_int.f
  refine evBind e (evNow ?_)
  simpa using hr
theorem cv_impl (a b : List Int) (ha : a.length < 4611686018427387904) (hb : b.length < 4611686018427387904) : ∀ (d i : Nat), i + d = a.length →
    Ev (fun k => impl_ChooseVersion.l0 k b a (a.length : Int) (i : Int)) (pick (a.drop i) b) := by
  intro d
  induction d with
  | zero =>
    intro i h
    refine evSucc ?_
    simp only [impl_ChooseVersion.l0]
    refine evNeg (by omega) (evNow ?_)
    rw [List.drop_of_length_le (by omega)]; rfl
  | succ d ih =>
    intro i h
    refine evSucc ?_
    simp only [impl_ChooseVersion.l0]
    refine evPos (by omega) (evPos (by omega) (evPos (by omega) (evBind (hasI b _ hb) ?_)))
    rw [rdN a i (by omega), dropCons a i (by omega), pick_cons]
    by_cases hv : a[i]'(by omega) ∈ b
    · refine evPos (by simpa using hv) (evNow ?_)
      rw [if_pos hv]
    · refine evNeg (by simpa using hv) ?_
      rw [if_neg hv, w64succ i (by omega)]
      exact ih (i + 1) (by omega)
theorem cv_spec1 (a b : List Int) (i : Nat) (hi : i < a.length) (ha : a.length < 4611686018427387904) (hb : b.length < 4611686018427387904)
    (next : Ev (fun k => spec_ChooseVersion.l0 k a b ((i + 1 : Nat) : Int)) (pick (a.drop (i + 1)) b)) : ∀ (d j : Nat), j + d = b.length →
    Ev (fun k => spec_ChooseVersion.l1 k a b (i : Int) (j : Int)) (if a[i] ∈ b.drop j then a[i] else pick (a.drop (i + 1)) b) := by
  intro d
  induction d with
  | zero =>
    intro j h
    refine evSucc ?_
    simp only [spec_ChooseVersion.l1]
    refine evNeg (by omega) ?_
    rw [w64succ i (by omega), if_neg (by rw [List.drop_of_length_le (by omega)]; simp)]
    exact next
  | succ d ih =>
    intro j h
    refine evSucc ?_
    simp only [spec_ChooseVersion.l1]
    rw [rdN a i hi, rdN b j (by omega)]
    have hm := memDrop b j (by omega) a[i]
    refine evPos (by omega) (evPos (by omega) (evPos (by omega) (evPos (by omega) ?_)))
    by_cases hv : a[i] = b[j]'(by omega)
    · refine evPos hv (evNow ?_)
      rw [if_pos (hm.2 (.inl hv))]
    · refine evNeg hv ?_
      rw [w64succ j (by omega)]
      have := ih (j + 1) (by omega)
      have e : a[i] ∈ b.drop j ↔ a[i] ∈ b.drop (j + 1) := ⟨fun h => (hm.1 h).resolve_left hv, fun h => hm.2 (.inr h)⟩
      simp only [e]
      exact this
theorem cv_spec (a b : List Int) (ha : a.length < 4611686018427387904) (hb : b.length < 4611686018427387904) : ∀ (d i : Nat), i + d = a.length →
    Ev (fun k => spec_ChooseVersion.l0 k a b (i : Int)) (pick (a.drop i) b) := by
  intro d
  induction d with
  | zero =>
    intro i h
    refine evSucc ?_
    simp only [spec_ChooseVersion.l0]
    refine evNeg (by omega) (evNow ?_)
    rw [List.drop_of_length_le (by omega)]; rfl
  | succ d ih =>
    intro i h
    refine evSucc ?_
    simp only [spec_ChooseVersion.l0]
    refine evPos (by omega) ?_
    have := cv_spec1 a b i (by omega) ha hb (ih (i + 1) (by omega)) b.length 0 (by omega)
    rw [dropCons a i (by omega), pick_cons]
    simpa using this
def choose (a b : List Int) : Int := if a.length > 4096 ∨ b.length > 4096 then 0 else pick a b
theorem cv_implF (a b : List Int) (ha : a.length < 4611686018427387904) (hb : b.length < 4611686018427387904) : Ev (fun k => impl_ChooseVersion.f k a b) (choose a b) := by
  have h := cv_impl a b ha hb a.length 0 (by omega)
  unfold impl_ChooseVersion.f choose
  refine evSplit (fun h1 => evSucc ?_) (fun h1 => evSucc ?_)
  · simp only [impl_ChooseVersion.j0]
    exact evPos (by first | rfl | trivial) (evNow (by rw [if_pos (by omega)]))
  · simp only [impl_ChooseVersion.j0]
    by_cases h2 : b.length > 4096
    · exact evPos (by simp; omega) (evNow (by rw [if_pos (by omega)]))
    · refine evNeg (by simp; omega) ?_
      rw [if_neg (by omega)]
      simpa using h
theorem cv_specF (a b : List Int) (ha : a.length < 4611686018427387904) (hb : b.length < 4611686018427387904) : Ev (fun k => spec_ChooseVersion.f k a b) (choose a b) := by
  have h := cv_spec a b ha hb a.length 0 (by omega)
  unfold spec_ChooseVersion.f choose
  refine evSplit (fun h1 => evSucc ?_) (fun h1 => evSucc ?_)
  · simp only [spec_ChooseVersion.j0]
    exact evPos (by first | rfl | trivial) (evNow (by rw [if_pos (by omega)]))
  · simp only [spec_ChooseVersion.j0]
    by_cases h2 : b.length > 4096
    · exact evPos (by simp; omega) (evNow (by rw [if_pos (by omega)]))
    · refine evNeg (by simp; omega) ?_
      rw [if_neg (by omega)]
      simpa using h

theorem FnExactChooseVersion : laws_FnExactChooseVersion.Stmt := by
  intro a b _ ha _ hb
  refine evEnds ?_
  unfold laws_FnExactChooseVersion.f
  refine evSplit (fun _ => Ev.now _) (fun h1 => evSplit (fun _ => Ev.now _) (fun h2 => ?_))
  refine evBind (toI a ha) (evBind (toI b hb) (evBind (cv_specF a b (by omega) (by omega)) (evBind (toI a ha) (evBind (toI b hb) (evBind (cv_implF a b (by omega) (by omega)) (evPos rfl ?_))))))
  exact evBind (toI a ha) (evBind (eqI a (by omega)) (evPos rfl (evBind (toI b hb) (evBind (eqI b (by omega)) (evPos rfl (Ev.now _))))))

end Go.Proofs.Ytffmebjogdemhaa.Pure
