/- The program's ReadHyper answers what the reference's ReadHyper answers, in memory of its own, for all bytes and every place; no condition. -/
import Derived.Test.YtkloeccbhjngiaaPFnExactReadHyperx0
import Derived.Test.YtkloeccbhjngiaaPFnExactReadHyperx1
import Derived.Test.YtkloeccbhjngiaaPFnExactReadHyperx2
import Derived.Test.YtkloeccbhjngiaaPFnExactReadHyperx3
import Derived.Test.YtkloeccbhjngiaaPFnExactReadHyperx4
import Derived.Test.YtkloeccbhjngiaaPFnExactReadHyperx5
import Derived.Test.YtkloeccbhjngiaaPFnExactReadHyperx6
import Derived.Test.YtkloeccbhjngiaaPFnExactReadHyperx7
import Derived.Test.YtkloeccbhjngiaaPFnExactReadHyperx8
import Derived.Test.YtkloeccbhjngiaaPFnExactReadHyperx9
import Derived.Test.YtkloeccbhjngiaaPFnExactReadHyperx10
import Derived.Laws.BitsLemmas
import Derived.Laws.BitsAllLaws
set_option linter.unusedVariables false
set_option linter.unusedSimpArgs false
set_option maxRecDepth 4000
namespace Go.Proofs.Ytkloeccbhjngiaa.Pure
open Go.RowKit Go.Proofs.Ytkloeccbhjngiaa.PFnExactReadHyper Go.Proofs.YtkloeccbhjngiaaW.PrintWords Go.Proofs.YtkloeccbhjngiaaW.PrintLast Go.Proofs.YtkloeccbhjngiaaW.PrintMore

/-! ### tools: what a printed function comes to -/
theorem evSucc {α : Type} {g : Nat → Option α} {r : α} (h : Ev (fun k => g (k + 1)) r) : Ev g r := Ev.step (fun _ => rfl) h
theorem evPos {α : Type} {c : Prop} {dc : Decidable c} {a b : Nat → Option α} {r : α} (h : c) (e : Ev a r) : Ev (fun k => if c then a k else b k) r :=
  Ev.congr (fun _ => if_pos h) e
theorem evNeg {α : Type} {c : Prop} {dc : Decidable c} {a b : Nat → Option α} {r : α} (h : ¬ c) (e : Ev b r) : Ev (fun k => if c then a k else b k) r :=
  Ev.congr (fun _ => if_neg h) e
theorem evSplit {α : Type} {c : Prop} {dc : Decidable c} {a b : Nat → Option α} {r : α} (h : c → Ev a r) (h' : ¬ c → Ev b r) : Ev (fun k => if c then a k else b k) r := by
  by_cases hc : c
  · exact evPos hc (h hc)
  · exact evNeg hc (h' hc)
theorem evBind {α β : Type} {g : Nat → Option α} {f : Nat → α → Option β} {a : α} {r : β} (h : Ev g a) (k : Ev (fun n => f n a) r) : Ev (fun n => (g n).bind (f n)) r := Ev.bind h k
theorem evPut {α β : Type} {o : Option α} {f : Nat → α → Option β} {a : α} {r : β} (h : o = some a) (k : Ev (fun n => f n a) r) : Ev (fun n => o.bind (f n)) r :=
  Ev.congr (fun _ => by rw [h]; rfl) k
theorem evNow {α : Type} {r r' : α} (h : r = r') : Ev (fun _ => some r) r' := h ▸ Ev.now r
theorem evOf {α : Type} {o : Option α} {r : α} (h : o = some r) : Ev (fun _ => o) r := ⟨0, fun _ _ => h⟩
theorem evEnds {α : Type} {g : Nat → Option α} {r : α} (h : Ev g r) : ∃ k, g k = some r := Ev.rounds h
theorem w64 {x : Int} (h : -9223372036854775808 ≤ x) (h' : x ≤ 9223372036854775807) : wrap64 x = x := by unfold wrap64; omega
theorem w64succ (i : Nat) (h : i < 4611686018427387904) : wrap64 ((i : Int) + 1) = ((i + 1 : Nat) : Int) := by unfold wrap64; omega
theorem wfI {x : Int} (h : (Lit.int .i64 x).wf = true) : -9223372036854775808 ≤ x ∧ x ≤ 9223372036854775807 := by
  simp only [Lit.wf, IntKind.min, IntKind.max, IntKind.bits, IntKind.signed, Bool.and_eq_true, decide_eq_true_eq] at h
  simpa using h
theorem wfB {x : Int} (h : (Lit.int .u8 x).wf = true) : 0 ≤ x ∧ x ≤ 255 := by
  simp only [Lit.wf, IntKind.min, IntKind.max, IntKind.bits, IntKind.signed, Bool.and_eq_true, decide_eq_true_eq] at h
  simpa using h
theorem rdN (l : List Int) (i : Nat) (h : i < l.length) : rd l (i : Int) = l[i] := by simp [rd, List.getD_eq_getElem?_getD, h]
theorem fillStep {α : Type} (l : List α) (z : α) (i d : Nat) (h : i + (d + 1) = l.length) : (l.take i ++ List.replicate (d + 1) z).set i (l[i]'(by omega)) = l.take (i + 1) ++ List.replicate d z := by
  rw [List.set_append_right _ _ (by simp; omega), List.take_succ_eq_append_getElem (show i < l.length by omega), List.append_assoc]
  congr 1
  have e : i - (l.take i).length = 0 := by simp; omega
  rw [e]
  rfl
theorem evCast {α : Type} {g : Nat → Option α} {r r' : α} (h : Ev g r') (e : r' = r) : Ev g r := e ▸ h

/-! ### the laws' own helpers on bytes -/
theorem eqB_loop (l : List Int) (hl : l.length < 4611686018427387904) : ∀ (d i : Nat), i + d = l.length → Ev (fun k => laws_eqByteS.l0 k l l (i : Int)) true := by
  intro d
  induction d with
  | zero =>
    intro i h
    refine evSucc ?_
    simp only [laws_eqByteS.l0]
    exact evNeg (by omega) (Ev.now _)
  | succ d ih =>
    intro i h
    refine evSucc ?_
    simp only [laws_eqByteS.l0]
    refine evPos (by omega) (evPos (by omega) (evPos (by omega) (evPos (by first | rfl | trivial) ?_)))
    rw [w64succ i (by omega)]
    exact ih (i + 1) (by omega)
theorem eqB (l : List Int) (hl : l.length < 4611686018427387904) : Ev (fun k => laws_eqByteS.f k l l) true := by
  unfold laws_eqByteS.f
  exact evPos rfl (eqB_loop l hl l.length 0 (by omega))

theorem toB_loop (l : List Int) (hl : l.length < 4611686018427387904) : ∀ (d i : Nat), i + d = l.length → Ev (fun k => laws_toByteS.l0 k l (l.take i ++ List.replicate d 0) (i : Int)) l := by
  intro d
  induction d with
  | zero =>
    intro i h
    refine evSucc ?_
    simp only [laws_toByteS.l0]
    refine evNeg (by omega) (evNow ?_)
    simp [List.take_of_length_le (show l.length ≤ i by omega)]
  | succ d ih =>
    intro i h
    refine evSucc ?_
    simp only [laws_toByteS.l0]
    refine evPos (by omega) (evPos (by omega) (evPos (by simp; omega) ?_))
    rw [w64succ i (by omega), rdN l i (by omega), Int.toNat_natCast, fillStep l 0 i d h]
    exact ih (i + 1) (by omega)
theorem toB (l : List Int) (hl : l.length ≤ 140737488351232) : Ev (fun k => laws_toByteS.f k l) l := by
  unfold laws_toByteS.f
  refine evPos (by omega) (evPos (by omega) ?_)
  have := toB_loop l (by omega) l.length 0 (by omega)
  simpa using this

theorem markB_loop (m : Int) (n : Nat) (h0 : 0 ≤ m) (hm : m + n < 4611686018427387904) : ∀ (d i : Nat) (l : List Int), i + d = n → l.length = n → (∀ j : Nat, j < i → rd l (j : Int) = (m + j) % 256) →
    ∃ l' : List Int, l'.length = n ∧ (∀ j : Nat, j < n → rd l' (j : Int) = (m + j) % 256) ∧ Ev (fun k => laws_markByteS.l0 k l (m + i) (i : Int)) (m + n, l') := by
  intro d
  induction d with
  | zero =>
    intro i l h hl hj
    refine ⟨l, hl, fun j hj' => hj j (by omega), evSucc ?_⟩
    simp only [laws_markByteS.l0]
    refine evNeg (by omega) (evNow ?_)
    have : i = n := by omega
    rw [this]
  | succ d ih =>
    intro i l h hl hj
    obtain ⟨l', hl', hj', e⟩ := ih (i + 1) (l.set i ((m + i) % 256)) (by omega) (by simpa using hl) (by
      intro j hj1
      by_cases hji : j = i
      · subst hji
        simp [rd, List.getD_eq_getElem?_getD, hl, show j < n by omega]
      · have := hj j (by omega)
        simp only [rd, List.getD_eq_getElem?_getD, Int.toNat_natCast] at this ⊢
        rw [List.getElem?_set_ne (by omega)]
        exact this)
    refine ⟨l', hl', hj', evSucc ?_⟩
    simp only [laws_markByteS.l0]
    refine evPos (by omega) (evPos (by omega) ?_)
    rw [w64succ i (by omega), w64 (by omega) (by omega), Int.toNat_natCast]
    have e2 : m + (i : Int) + 1 = m + ((i + 1 : Nat) : Int) := by omega
    rw [e2]
    exact e
theorem markB (l : List Int) (m : Int) (h0 : 0 ≤ m) (hm : m + l.length < 4611686018427387904) :
    ∃ l' : List Int, l'.length = l.length ∧ (∀ j : Nat, j < l.length → rd l' (j : Int) = (m + j) % 256) ∧ Ev (fun k => laws_markByteS.f k l m) (m + l.length, l') := by
  obtain ⟨l', h1, h2, h3⟩ := markB_loop m l.length h0 hm l.length 0 l (by omega) rfl (by omega)
  refine ⟨l', h1, h2, ?_⟩
  unfold laws_markByteS.f
  simpa using h3
theorem heldB_loop (m : Int) (l : List Int) (h0 : 0 ≤ m) (hm : m + l.length < 4611686018427387904) (hj : ∀ j : Nat, j < l.length → rd l (j : Int) = (m + j) % 256) :
    ∀ (d i : Nat), i + d = l.length → Ev (fun k => laws_heldByteS.l0 k l (m + i) (i : Int)) (m + l.length) := by
  intro d
  induction d with
  | zero =>
    intro i h
    refine evSucc ?_
    simp only [laws_heldByteS.l0]
    refine evNeg (by omega) (evNow ?_)
    have : i = l.length := by omega
    rw [this]
  | succ d ih =>
    intro i h
    refine evSucc ?_
    simp only [laws_heldByteS.l0]
    refine evPos (by omega) (evPos (by omega) (evPos (hj i (by omega)) ?_))
    rw [w64succ i (by omega), w64 (by omega) (by omega)]
    have e2 : m + (i : Int) + 1 = m + ((i + 1 : Nat) : Int) := by omega
    rw [e2]
    exact ih (i + 1) (by omega)
theorem heldB (m : Int) (l : List Int) (h0 : 0 ≤ m) (hm : m + l.length < 4611686018427387904) (hj : ∀ j : Nat, j < l.length → rd l (j : Int) = (m + j) % 256) :
    Ev (fun k => laws_heldByteS.f k l m) (m + l.length) := by
  unfold laws_heldByteS.f
  have := heldB_loop m l h0 hm hj l.length 0 (by omega)
  simpa using this

/-! ### which hypertext frames are valid -/
def varP (v : Int) : Bool := decide (0 ≤ v ∧ v ≤ 4611686018427387903)
theorem varI (v : Int) : impl_inVar.f v = some (varP v) := by
  unfold impl_inVar.f varP
  by_cases h : 0 ≤ v
  · rw [if_pos h]; simp [h]
  · rw [if_neg h]; simp [h]
theorem varS (v : Int) : spec_l05Var.f v = some (varP v) := by
  unfold spec_l05Var.f varP
  by_cases h : 0 ≤ v
  · rw [if_pos h]; simp [h]
  · rw [if_neg h]; simp [h]
def setV (x : S122) : Bool := varP x.f0 && varP x.f1
def setFrom : List Int → List S122 → Bool
  | _, [] => true
  | s, x :: l => setV x && !s.contains x.f0 && setFrom (x.f0 :: s) l
theorem setFrom_is (s : List Int) (l : List S122) : setFrom s l = (l.all setV && unlikeL s (l.map fun x => x.f0)) := by
  induction l generalizing s with
  | nil => rfl
  | cons x l ih =>
    simp only [setFrom, ih, List.all_cons, List.map_cons, unlikeL]
    cases setV x <;> cases s.contains x.f0 <;> simp
theorem rdSet (l : List S122) (i : Nat) (h : i < l.length) : rd_T122 l (i : Int) = l[i] := by simp [rd_T122, List.getD_eq_getElem?_getD, h]
theorem setS_in (l : List S122) (hl : l.length ≤ 1000) (i : Nat) (hi : i < l.length) (r : Bool) (hr : ((l.take i).map fun x => x.f0).contains (l[i]).f0 = false → Ev (fun k => spec_l15SetOK.l0 k l ((i + 1 : Nat) : Int)) r) (hr2 : ((l.take i).map fun x => x.f0).contains (l[i]).f0 = true → r = false) :
    ∀ d j : Nat, j + d = i → (∀ (q : Nat) (h : q < l.length), q < j → (l[q]'h).f0 ≠ (l[i]).f0) → Ev (fun k => spec_l15SetOK.l1 k l (i : Int) (j : Int)) r := by
  intro d
  induction d with
  | zero =>
    intro j hj hq
    refine evSucc ?_
    simp only [spec_l15SetOK.l1]
    refine evNeg (by omega) ?_
    rw [w64succ i (by omega)]
    refine hr ?_
    rw [Bool.eq_false_iff]
    intro hc
    rw [List.contains_iff_mem, List.mem_map] at hc
    obtain ⟨x, hx, he⟩ := hc
    obtain ⟨q, hq1, hq2⟩ := List.mem_take_iff_getElem.1 hx
    exact hq q (by omega) (by omega) (by rw [hq2]; exact he)
  | succ d ih =>
    intro j hj hq
    refine evSucc ?_
    simp only [spec_l15SetOK.l1]
    refine evPos (by omega) (evPos (by omega) (evPos (by omega) (evPos (by omega) (evPos (by omega) ?_))))
    rw [rdSet l j (by omega), rdSet l i hi]
    refine evSplit (fun he => ?_) (fun he => ?_)
    · rw [hr2 ?_]
      · exact Ev.now _
      · rw [List.contains_iff_mem, List.mem_map]
        exact ⟨l[j]'(by omega), List.mem_take_iff_getElem.2 ⟨j, by omega, rfl⟩, he⟩
    · rw [w64succ j (by omega)]
      refine ih (j + 1) (by omega) (fun q h hlt => ?_)
      by_cases e : q = j
      · subst e; exact he
      · exact hq q h (by omega)
theorem setS_loop (l : List S122) (hl : l.length ≤ 1000) : ∀ (d i : Nat), i + d = l.length → Ev (fun k => spec_l15SetOK.l0 k l (i : Int)) (setFrom ((l.take i).map fun x => x.f0).reverse (l.drop i)) := by
  intro d
  induction d with
  | zero =>
    intro i h
    refine evSucc ?_
    simp only [spec_l15SetOK.l0]
    rw [List.drop_of_length_le (by omega)]
    exact evNeg (by omega) (Ev.now _)
  | succ d ih =>
    intro i h
    have hi : i < l.length := by omega
    refine evSucc ?_
    simp only [spec_l15SetOK.l0, varS]
    refine evPos (by omega) (evPos (by omega) (evPut rfl ?_))
    rw [rdSet l i hi, List.drop_eq_getElem_cons hi, setFrom]
    have bad : ∀ q, q = false → Ev (fun k => spec_l15SetOK.j1 k l (i : Int) true) q := by
      intro q hq
      refine evSucc ?_
      simp only [spec_l15SetOK.j1]
      exact evPos (by first | rfl | trivial) (evNow hq.symm)
    refine evSplit (fun h1 => evPut rfl ?_) (fun h1 => bad _ (by simp [setV, h1]))
    cases h2 : varP (l[i]).f1
    · exact bad _ (by simp [setV, h2])
    · refine evSucc ?_
      simp only [spec_l15SetOK.j1]
      refine evNeg (by simp) ?_
      refine setS_in l hl i hi _ (fun hc => ?_) (fun hc => ?_) i 0 (by omega) (fun q h hlt => by omega)
      · refine evCast (ih (i + 1) (by omega)) ?_
        rw [List.contains_reverse, hc, List.take_succ_eq_append_getElem hi, List.map_append, List.reverse_append]
        simp only [setV, h1, h2]
        rfl
      · rw [List.contains_reverse, hc]
        simp
theorem setS (l : List S122) : Ev (fun k => spec_l15SetOK.f k l) (decide (l.length ≤ 16) && setFrom [] l) := by
  unfold spec_l15SetOK.f
  refine evSplit (fun h => ?_) (fun h => ?_)
  · exact evNow (by rw [decide_eq_false (by omega)]; rfl)
  · refine evCast (setS_loop l (by omega) l.length 0 (by omega)) ?_
    rw [decide_eq_true (by omega)]
    simp
def shapeP (k a : Int) (d : List Int) (s : List S122) : Bool :=
  if k = 4 then decide (a = 0 ∧ d.length = 0) else if k = 7 then decide (s.length = 0 ∧ d.length = 0) else if k = 15 then decide (s.length = 0 ∧ d.length ≤ 1024) else decide (a = 0 ∧ s.length = 0)
def hyperP (k a : Int) (d : List Int) (s : List S122) : Bool :=
  varP k && varP a && decide (d.length ≤ 16384) && (decide (s.length ≤ 16) && setFrom [] s) && shapeP k a d s
theorem hyperS (k a : Int) (d : List Int) (s : List S122) : Ev (fun n => spec_HyperOK.f n k a d s) (hyperP k a d s) := by
  have bad : ∀ q, q = false → Ev (fun n => spec_HyperOK.j0 n true k a d s) q := by
    intro q hq
    refine evSucc ?_
    simp only [spec_HyperOK.j0]
    exact evPos (by first | rfl | trivial) (evNow hq.symm)
  unfold spec_HyperOK.f
  simp only [varS]
  refine evPut rfl (evSplit (fun h1 => evPut rfl (evSplit (fun h2 => evSplit (fun h3 => bad _ ?_) (fun h3 => evBind (setS s) ?_)) (fun h2 => bad _ ?_))) (fun h1 => bad _ ?_))
  · simp [hyperP, show ¬ d.length ≤ 16384 by omega]
  · cases h4 : (decide (s.length ≤ 16) && setFrom [] s)
    · exact bad _ (by simp only [hyperP, h4]; simp)
    · refine evSucc ?_
      simp only [spec_HyperOK.j0]
      have e : hyperP k a d s = shapeP k a d s := by simp only [hyperP, h1, h2, h4, decide_eq_true (show d.length ≤ 16384 by omega)]; simp
      rw [e]
      unfold shapeP
      refine evNeg (by simp) (evSplit (fun h5 => ?_) (fun h5 => evSplit (fun h6 => ?_) (fun h6 => evSplit (fun h7 => ?_) (fun h7 => ?_))))
      · rw [if_pos h5]
        refine evSplit (fun h8 => evNow ?_) (fun h8 => evNow ?_)
        · rw [Bool.eq_iff_iff]; simp [h8]
        · simp [h8]
      · rw [if_neg h5, if_pos h6]
        refine evSplit (fun h8 => evNow ?_) (fun h8 => evNow ?_)
        · have h9 : s.length = 0 := by omega
          rw [Bool.eq_iff_iff]; simp [h9]
        · have h9 : ¬ s.length = 0 := by omega
          simp [h9]
      · rw [if_neg h5, if_neg h6, if_pos h7]
        refine evSplit (fun h8 => evNow ?_) (fun h8 => evNow ?_)
        · have h9 : s.length = 0 := by omega
          rw [Bool.eq_iff_iff]; simp [h9]; omega
        · have h9 : ¬ s.length = 0 := by omega
          simp [h9]
      · rw [if_neg h5, if_neg h6, if_neg h7]
        refine evSplit (fun h8 => evNow ?_) (fun h8 => evNow ?_)
        · rw [Bool.eq_iff_iff]; simp [h8]
        · simp [h8]
  · simp only [hyperP]; simp [h2]
  · simp only [hyperP]; simp [h1]
theorem hyperI_loop (s : List S122) (hl : s.length ≤ 1000) : ∀ (d i : Nat), i + d = s.length → (∀ x ∈ s.take i, setV x = true) → Ev (fun k => impl_HyperOK.l0 k ((s.take i).map fun x => x.f0) s (s.length : Int) (i : Int)) ((s.drop i).all setV && unlikeL [] (s.map fun x => x.f0)) := by
  intro d
  induction d with
  | zero =>
    intro i h hv
    refine evSucc ?_
    simp only [impl_HyperOK.l0]
    refine evNeg (by omega) ?_
    rw [List.take_of_length_le (by omega)] at hv ⊢
    rw [List.drop_of_length_le (by omega)]
    refine evPut (a := unlikeL [] (s.map fun x => x.f0)) ?_ (evNow (by simp))
    unfold impl_unlike_int.f
    rw [if_pos]
    refine ⟨by simp; omega, ?_⟩
    rw [List.all_eq_true]
    intro y hy
    obtain ⟨x, hx, rfl⟩ := List.mem_map.1 hy
    have := hv x hx
    simp only [setV, varP, Bool.and_eq_true, decide_eq_true_eq] at this
    simp [Lit.wf, IntKind.min, IntKind.max, IntKind.bits, IntKind.signed]
    omega
  | succ d ih =>
    intro i h hv
    have hi : i < s.length := by omega
    refine evSucc ?_
    simp only [impl_HyperOK.l0, varI]
    rw [rdSet s i hi, List.drop_eq_getElem_cons hi, List.all_cons]
    refine evPos (by omega) (evPos (by omega) (evPos (by omega) (evPut rfl (evSplit (fun h1 => evPut rfl (evSplit (fun h2 => evPos ?_ ?_) (fun h2 => evNow ?_))) (fun h1 => evNow ?_)))))
    · simp; omega
    · rw [w64succ i (by omega)]
      have hs : setV s[i] = true := by simp [setV, h1, h2]
      have := ih (i + 1) (by omega) (by
        intro x hx
        rw [List.take_succ_eq_append_getElem hi, List.mem_append] at hx
        rcases hx with hx | hx
        · exact hv x hx
        · rw [List.mem_singleton.1 hx]; exact hs)
      rw [List.take_succ_eq_append_getElem hi, List.map_append] at this
      refine evCast this ?_
      rw [hs]
      rfl
    · simp [setV, h2]
    · simp [setV, h1]
theorem hyperI (k a : Int) (d : List Int) (s : List S122) : Ev (fun n => impl_HyperOK.f n k a d s) (hyperP k a d s) := by
  have bad0 : ∀ q, q = false → Ev (fun n => impl_HyperOK.j0 n true k a d s) q := by
    intro q hq
    refine evSucc ?_
    simp only [impl_HyperOK.j0]
    exact evPos (by first | rfl | trivial) (evNow hq.symm)
  have bad2 : ∀ q, q = false → Ev (fun n => impl_HyperOK.j2 n true k a d s) q := by
    intro q hq
    refine evSucc ?_
    simp only [impl_HyperOK.j2]
    exact evPos (by first | rfl | trivial) (evNow hq.symm)
  have good2 : ∀ q, q = (decide (s.length ≤ 16) && setFrom [] s) → Ev (fun n => impl_HyperOK.j2 n (decide ((s.length : Int) > 16)) k a d s) q := by
    intro q hq
    subst hq
    by_cases h : s.length ≤ 16
    · refine evSucc ?_
      simp only [impl_HyperOK.j2]
      refine evNeg (by simp; omega) ?_
      refine evCast (hyperI_loop s (by omega) s.length 0 (by omega) (by simp)) ?_
      rw [decide_eq_true h, setFrom_is]
      simp
    · rw [decide_eq_true (show (s.length : Int) > 16 by omega)]
      exact bad2 _ (by simp [h])
  have j1 : ∀ x y z q, q = ((x || decide (a = 0)) && (y || decide (d.length = 0)) && (z || decide (s.length = 0)) && (decide (s.length ≤ 16) && setFrom [] s)) → Ev (fun n => impl_HyperOK.j1 n x y z k a d s) q := by
    intro x y z q hq
    subst hq
    refine evSucc ?_
    simp only [impl_HyperOK.j1]
    have hd : (d.length : Int) > 0 ↔ ¬ d.length = 0 := by omega
    have hs : (s.length : Int) > 0 ↔ ¬ s.length = 0 := by omega
    simp only [hd, hs]
    have no : ∀ p : Bool, p = false → (p && (decide (s.length ≤ 16) && setFrom [] s)) = false := fun p h => by rw [h]; rfl
    have yes : ∀ p : Bool, p = true → (p && (decide (s.length ≤ 16) && setFrom [] s)) = (decide (s.length ≤ 16) && setFrom [] s) := fun p h => by rw [h]; rfl
    generalize hT : (decide (s.length ≤ 16) && setFrom [] s) = T at good2 no yes ⊢
    clear hT hd hs
    have em : ∀ p : Prop, p = True ∨ p = False := fun p => (Classical.em p).elim (fun h => .inl (eq_true h)) (fun h => .inr (eq_false h))
    rcases em (a = 0) with ha | ha <;> rcases em (d.length = 0) with hd | hd <;> rcases em (s.length = 0) with hs | hs <;> cases x <;> cases y <;> cases z <;> simp only [ha, hd, hs, not_true_eq_false, not_false_eq_true, if_true, if_false, Bool.false_eq_true, Bool.true_or, Bool.false_or, decide_true, decide_false, Bool.and_true, Bool.true_and, Bool.and_false, Bool.false_and] <;> first | exact bad2 _ rfl | exact good2 _ rfl
  unfold impl_HyperOK.f
  simp only [varI]
  refine evPut rfl (evSplit (fun h1 => evPut rfl (evSplit (fun h2 => ?_) (fun h2 => bad0 _ ?_))) (fun h1 => bad0 _ ?_))
  · by_cases h3 : d.length ≤ 16384
    · rw [decide_eq_false (show ¬ (d.length : Int) > 16384 by omega)]
      have e : hyperP k a d s = ((decide (s.length ≤ 16) && setFrom [] s) && shapeP k a d s) := by simp only [hyperP, h1, h2, decide_eq_true h3]; simp
      rw [e]
      refine evSucc ?_
      simp only [impl_HyperOK.j0]
      unfold shapeP
      refine evNeg (by simp) (evSplit (fun h5 => j1 _ _ _ _ ?_) (fun h5 => evSplit (fun h6 => j1 _ _ _ _ ?_) (fun h6 => evSplit (fun h7 => evSplit (fun h8 => evNow ?_) (fun h8 => j1 _ _ _ _ ?_)) (fun h7 => j1 _ _ _ _ ?_))))
      · rw [if_pos h5, Bool.eq_iff_iff]; simp; grind
      · rw [if_neg h5, if_pos h6, Bool.eq_iff_iff]; simp; grind
      · rw [if_neg h5, if_neg h6, if_pos h7]; have : ¬ d.length ≤ 1024 := by omega
        simp [this]
      · rw [if_neg h5, if_neg h6, if_pos h7, Bool.eq_iff_iff]; have : d.length ≤ 1024 := by omega
        simp [this]; grind
      · rw [if_neg h5, if_neg h6, if_neg h7, Bool.eq_iff_iff]; simp; grind
    · rw [decide_eq_true (show (d.length : Int) > 16384 by omega)]
      exact bad0 _ (by simp [hyperP, h3])
  · simp only [hyperP]; simp [h2]
  · simp only [hyperP]; simp [h1]

theorem bitsOrComm (k : IntKind) (x y : Int) : Go.bits .or k x y = Go.bits .or k y x := by
  simp only [Go.bits]; rw [BitVec.or_comm]

/-! ### a number out of its bytes -/
theorem stepU (a b : Int) (h0 : 0 ≤ a) (h1 : a ≤ 72057594037927935) (h2 : 0 ≤ b) (h3 : b ≤ 255) : Go.bits .or .u64 (IntKind.u64.wrap (a * 256)) (IntKind.u64.wrap b) = a * 256 + b := by
  have wr : ∀ n : Int, IntKind.u64.wrap n = n % 18446744073709551616 := fun n => by simp [IntKind.wrap, IntKind.bits, IntKind.signed]
  rw [wr (a * 256), wr b, Int.emod_eq_of_lt (by omega) (by omega), Int.emod_eq_of_lt (by omega) (by omega)]
  exact bits_join .u64 64 (by decide) (fun n h h' => by rw [wr]; omega) 8 (a * 256) b (by omega) (by omega) (by omega) h2 (by omega) (by omega)
theorem unfStep (l : List Int) (i : Nat) (a x r : Int) (hi : i < l.length) (hl : l.length ≤ 1000) (hx : rd l (i : Int) = x) (h0 : 0 ≤ a) (h1 : a ≤ 72057594037927935) (h2 : 0 ≤ x) (h3 : x ≤ 255)
    (h : Ev (fun k => impl_unfixed.l0 k (a * 256 + x) l (l.length : Int) ((i + 1 : Nat) : Int)) r) : Ev (fun k => impl_unfixed.l0 k a l (l.length : Int) (i : Int)) r := by
  refine evSucc ?_
  simp only [impl_unfixed.l0]
  refine evPos (by omega) (evPos (by omega) (evPos (by omega) ?_))
  rw [hx, stepU a x h0 h1 h2 h3, w64succ i (by omega)]
  exact h
theorem pow256le (k : Nat) (h : k ≤ 7) : (256 : Int) ^ k ≤ 72057594037927936 := by
  have h1 : (256 : Nat) ^ k ≤ 256 ^ 7 := Nat.pow_le_pow_right (by decide) h
  have e : (256 : Nat) ^ 7 = 72057594037927936 := by decide
  rw [e] at h1
  have h2 := Int.ofNat_le.2 h1
  rw [Int.natCast_pow] at h2
  exact h2
def valL (a : Int) (l : List Int) : Int := l.foldl (fun a b => a * 256 + b) a
theorem unfG (l : List Int) (hl : l.length ≤ 8) (hb : ∀ x ∈ l, 0 ≤ x ∧ x ≤ 255) : ∀ (q i : Nat) (a : Int), i + q = l.length → 0 ≤ a → a < 256 ^ i → Ev (fun k => impl_unfixed.l0 k a l (l.length : Int) (i : Int)) (wrap64 (valL a (l.drop i))) := by
  intro q
  induction q with
  | zero =>
    intro i a h _ _
    refine evSucc ?_
    simp only [impl_unfixed.l0]
    refine evNeg (by omega) (evNow ?_)
    rw [List.drop_of_length_le (by omega)]
    rfl
  | succ q ih =>
    intro i a h h0 h1
    have hi : i < l.length := by omega
    have hx := hb _ (List.getElem_mem hi)
    have hp := pow256le i (by omega)
    refine unfStep l i a l[i] _ hi (by omega) (rdN l i hi) h0 (by omega) hx.1 hx.2 ?_
    rw [List.drop_eq_getElem_cons hi]
    exact ih (i + 1) (a * 256 + l[i]) (by omega) (by omega) (by rw [Int.pow_succ]; omega)
theorem unfF (l : List Int) (hl : l.length ≤ 8) (hb : ∀ x ∈ l, 0 ≤ x ∧ x ≤ 255) : Ev (fun k => impl_unfixed.f k l) (wrap64 (valL 0 l)) := by
  unfold impl_unfixed.f
  exact unfG l hl hb l.length 0 0 (by omega) (by omega) (by simp)

/-! ### a number is read back, whatever stands there -/
theorem bitsNeg (v : Int) (h0 : 0 ≤ v) (h1 : v ≤ 4611686018427387903) : Go.bits .and .i64 (v - 4611686018427387904) 4611686018427387903 = v := by
  have wr : ∀ n : Int, IntKind.u64.wrap n = n % 18446744073709551616 := fun n => by simp [IntKind.wrap, IntKind.bits, IntKind.signed]
  have u := bits_mask .u64 64 (by decide) (fun n h h' => by rw [wr]; omega) 62 (by decide) (v + 13835058055282163712) (by omega) (by omega)
  have e : BitVec.ofInt 64 (v - 4611686018427387904) = BitVec.ofInt 64 (v + 13835058055282163712) := by
    apply BitVec.eq_of_toNat_eq
    simp only [BitVec.toNat_ofInt]
    congr 1
    omega
  have s : (2 : Int) ^ 62 - 1 = 4611686018427387903 := by decide
  rw [s] at u
  have u2 : IntKind.u64.wrap (((BitVec.ofInt 64 (v + 13835058055282163712) &&& BitVec.ofInt 64 4611686018427387903).toNat : Nat) : Int) = (v + 13835058055282163712) % 2 ^ 62 := u
  show IntKind.i64.wrap (((BitVec.ofInt 64 (v - 4611686018427387904) &&& BitVec.ofInt 64 4611686018427387903).toNat : Nat) : Int) = v
  rw [e]
  have hlt := (BitVec.ofInt 64 (v + 13835058055282163712) &&& BitVec.ofInt 64 4611686018427387903).isLt
  generalize (BitVec.ofInt 64 (v + 13835058055282163712) &&& BitVec.ofInt 64 4611686018427387903).toNat = N at u2 hlt
  rw [wr] at u2
  rw [IntKind.wrap_i64]
  omega
theorem andI (x : Int) (i : Nat) (hi : i ≤ 63) (h0 : 0 ≤ x) (h1 : x ≤ 9223372036854775807) : Go.bits .and .i64 x (2 ^ i - 1) = x % 2 ^ i :=
  bits_mask .i64 63 (by decide) (fun n h h' => by rw [IntKind.wrap_i64]; omega) i hi x h0 (by omega)
theorem shl64 (x : Int) (n : Nat) (hn : n ≤ 64) : shl .i64 x (n : Int) = wrap64 (x * 2 ^ n) := by
  unfold shl
  rw [IntKind.wrap_i64, Int.toNat_natCast, Nat.min_eq_left (by simpa [IntKind.bits] using hn)]
  unfold wrap64; rfl
theorem sh1 (q : Nat) (h : q ≤ 3) : shl .i64 1 (q : Int) = ((2 ^ q : Nat) : Int) := by
  rw [shl64 1 _ (by omega), Int.one_mul]
  have hq : q = 0 ∨ q = 1 ∨ q = 2 ∨ q = 3 := by omega
  rcases hq with rfl | rfl | rfl | rfl <;> (rw [w64 (by decide) (by decide)]; decide)
theorem maskE (n m : Nat) (hm : 8 * n + 6 = m) (h : m ≤ 62) : wrap64 (shl .i64 1 (wrap64 (wrap64 (8 * ((n + 1 : Nat) : Int)) - 2)) - 1) = 2 ^ m - 1 := by
  have h1 : (2 : Nat) ^ m ≤ 2 ^ 62 := Nat.pow_le_pow_right (by decide) h
  have h0 : 1 ≤ (2 : Nat) ^ m := Nat.one_le_two_pow
  have e : (2 : Nat) ^ 62 = 4611686018427387904 := by decide
  rw [e] at h1
  have h2 := Int.ofNat_le.2 h1
  have h3 := Int.ofNat_le.2 h0
  rw [Int.natCast_pow] at h2 h3
  rw [w64 (x := 8 * ((n + 1 : Nat) : Int)) (by omega) (by omega), w64 (x := 8 * ((n + 1 : Nat) : Int) - 2) (by omega) (by omega), show 8 * ((n + 1 : Nat) : Int) - 2 = (m : Int) by omega, shl64 1 m (by omega), Int.one_mul]
  generalize hp : (2 : Int) ^ m = p
  have h2 : p ≤ 4611686018427387904 := hp ▸ h2
  have h3 : 1 ≤ p := hp ▸ h3
  rw [w64 (x := p) (by omega) (by omega), w64 (x := p - 1) (by omega) (by omega)]
theorem maskN (v : Int) (n q : Nat) (h0 : 0 ≤ v) (hv : v < 64 * 256 ^ n) (hc : (n = 0 ∧ q = 0) ∨ (n = 1 ∧ q = 1) ∨ (n = 3 ∧ q = 2) ∨ (n = 7 ∧ q = 3)) :
    Go.bits .and .i64 (wrap64 (v + 64 * (q : Int) * 256 ^ n)) (wrap64 (shl .i64 1 (wrap64 (wrap64 (8 * ((n + 1 : Nat) : Int)) - 2)) - 1)) = v := by
  rcases hc with ⟨rfl, rfl⟩ | ⟨rfl, rfl⟩ | ⟨rfl, rfl⟩ | ⟨rfl, rfl⟩
  · have e : wrap64 (shl .i64 1 (wrap64 (wrap64 (8 * ((0 + 1 : Nat) : Int)) - 2)) - 1) = 2 ^ 6 - 1 := maskE 0 6 rfl (by decide)
    have m : 64 * ((0 : Nat) : Int) * 256 ^ 0 = 0 := by decide
    rw [e, m, w64 (by omega) (by omega), andI _ 6 (by omega) (by omega) (by omega)]
    omega
  · have e : wrap64 (shl .i64 1 (wrap64 (wrap64 (8 * ((1 + 1 : Nat) : Int)) - 2)) - 1) = 2 ^ 14 - 1 := maskE 1 14 rfl (by decide)
    have m : 64 * ((1 : Nat) : Int) * 256 ^ 1 = 16384 := by decide
    rw [e, m, w64 (by omega) (by omega), andI _ 14 (by omega) (by omega) (by omega)]
    omega
  · have e : wrap64 (shl .i64 1 (wrap64 (wrap64 (8 * ((3 + 1 : Nat) : Int)) - 2)) - 1) = 2 ^ 30 - 1 := maskE 3 30 rfl (by decide)
    have m : 64 * ((2 : Nat) : Int) * 256 ^ 3 = 2147483648 := by decide
    have b : (64 : Int) * 256 ^ 3 = 1073741824 := by decide
    rw [e, m, w64 (by omega) (by omega), andI _ 30 (by omega) (by omega) (by omega)]
    omega
  · have e : wrap64 (shl .i64 1 (wrap64 (wrap64 (8 * ((7 + 1 : Nat) : Int)) - 2)) - 1) = 4611686018427387903 := (maskE 7 62 rfl (by decide)).trans (by decide)
    have m : 64 * ((3 : Nat) : Int) * 256 ^ 7 = 13835058055282163712 := by decide
    have b : (64 : Int) * 256 ^ 7 = 4611686018427387904 := by decide
    have w : wrap64 (v + 13835058055282163712) = v - 4611686018427387904 := by unfold wrap64; omega
    rw [e, m, w]
    exact bitsNeg v h0 (by omega)
theorem valL_add : ∀ (T : List Int) (a c : Int), valL (a + c) T = valL a T + c * 256 ^ T.length
  | [], a, c => by simp [valL]
  | x :: t, a, c => by
    have ih := valL_add t (a * 256 + x) (c * 256)
    have e1 : valL (a + c) (x :: t) = valL ((a + c) * 256 + x) t := rfl
    have e2 : valL a (x :: t) = valL (a * 256 + x) t := rfl
    have e3 : (a + c) * 256 + x = (a * 256 + x) + c * 256 := by omega
    rw [e1, e2, e3, ih, List.length_cons, Int.pow_succ, Int.mul_assoc, Int.mul_comm 256 ((256 : Int) ^ t.length)]
theorem valL_lt : ∀ (T : List Int) (a : Int), (∀ x ∈ T, 0 ≤ x ∧ x ≤ 255) → 0 ≤ a → 0 ≤ valL a T ∧ valL a T < (a + 1) * 256 ^ T.length
  | [], a, _, h => by
    have e : valL a [] = a := rfl
    rw [e, List.length_nil, Int.pow_zero]
    omega
  | x :: t, a, hb, h => by
    have hx := hb x (List.mem_cons_self ..)
    obtain ⟨h1, h2⟩ := valL_lt t (a * 256 + x) (fun y hy => hb y (List.mem_cons_of_mem _ hy)) (by omega)
    have e1 : valL a (x :: t) = valL (a * 256 + x) t := rfl
    rw [e1]
    refine ⟨h1, Int.lt_of_lt_of_le h2 ?_⟩
    have hp : (0 : Int) ≤ 256 ^ t.length := Int.le_of_lt (Int.pow_pos (by decide))
    have h3 : (a * 256 + x + 1) * 256 ^ t.length ≤ ((a + 1) * 256) * 256 ^ t.length := Int.mul_le_mul_of_nonneg_right (by omega) hp
    rw [List.length_cons, Int.pow_succ, Int.mul_comm ((256 : Int) ^ t.length) 256, ← Int.mul_assoc]
    exact h3
/-- The number that stands at a place: its value, the place behind it, a code. -/
def gv (b : List Int) (a : Nat) : Int × Int × Int :=
  if a = b.length then (0, 0, 2) else if b.length < a + 2 ^ (rd b (a : Int) / 64).toNat then (0, 0, 2)
  else (valL (rd b (a : Int) % 64) ((b.drop (a + 1)).take (2 ^ (rd b (a : Int) / 64).toNat - 1)), ((a + 2 ^ (rd b (a : Int) / 64).toNat : Nat) : Int), 0)
theorem gv_ok (b : List Int) (a : Nat) (hb : ∀ x ∈ b, 0 ≤ x ∧ x ≤ 255) (h : a ≤ b.length) : ((gv b a).2.2 = 0 ∧ 0 ≤ (gv b a).1 ∧ ∃ t : Nat, (gv b a).2.1 = (t : Int) ∧ a < t ∧ t ≤ b.length) ∨ gv b a = (0, 0, 2) := by
  unfold gv
  by_cases h1 : a = b.length
  · rw [if_pos h1]; exact .inr rfl
  · rw [if_neg h1]
    by_cases h2 : b.length < a + 2 ^ (rd b (a : Int) / 64).toNat
    · rw [if_pos h2]; exact .inr rfl
    · rw [if_neg h2]
      refine .inl ⟨rfl, (valL_lt _ _ (fun x hx => hb x (List.mem_of_mem_drop (List.mem_of_mem_take hx))) (by omega)).1, _, rfl, ?_, by omega⟩
      have := Nat.one_le_two_pow (n := (rd b (a : Int) / 64).toNat)
      omega
theorem byteAt (b : List Int) (hb : ∀ x ∈ b, 0 ≤ x ∧ x ≤ 255) (a : Nat) (h : a < b.length) : 0 ≤ rd b (a : Int) ∧ rd b (a : Int) ≤ 255 := by
  rw [rdN b a h]; exact hb _ (List.getElem_mem h)
theorem qcase (x : Int) (h0 : 0 ≤ x) (h1 : x ≤ 255) : ∃ q n : Nat, x / 64 = (q : Int) ∧ 2 ^ q = n + 1 ∧ ((n = 0 ∧ q = 0) ∨ (n = 1 ∧ q = 1) ∨ (n = 3 ∧ q = 2) ∨ (n = 7 ∧ q = 3)) := by
  have h : x / 64 = 0 ∨ x / 64 = 1 ∨ x / 64 = 2 ∨ x / 64 = 3 := by omega
  rcases h with h | h | h | h
  · exact ⟨0, 0, h, rfl, by omega⟩
  · exact ⟨1, 1, h, rfl, by omega⟩
  · exact ⟨2, 3, h, rfl, by omega⟩
  · exact ⟨3, 7, h, rfl, by omega⟩
theorem gvI (b : List Int) (hl : b.length ≤ 65536) (hb : ∀ x ∈ b, 0 ≤ x ∧ x ≤ 255) (a : Nat) (h : a ≤ b.length) : Ev (fun k => impl_GetVar.f k b (a : Int)) (gv b a) := by
  unfold impl_GetVar.f
  refine evPut rfl (evNeg (by simp; omega) (evNeg (by omega) ?_))
  rw [decide_eq_false (show ¬ (a : Int) > (b.length : Int) by omega)]
  refine evSucc ?_
  simp only [impl_GetVar.j0]
  unfold gv
  by_cases h1 : a = b.length
  · rw [if_pos h1]; exact evNeg (by simp) (evPos (by omega) (Ev.now _))
  rw [if_neg h1]
  have ha : a < b.length := by omega
  obtain ⟨x0, x1⟩ := byteAt b hb a ha
  obtain ⟨q, n, hq, hn, hc⟩ := qcase _ x0 x1
  have hq3 : q ≤ 3 := by omega
  have hn7 : n ≤ 7 := by omega
  have hs : shl .i64 1 (q : Int) = ((n + 1 : Nat) : Int) := by rw [sh1 _ hq3, hn]
  have hqn : ((rd b (a : Int)) / 64).toNat = q := by rw [hq]; omega
  rw [hqn, hn]
  rw [hq, hs, w64 (x := (b.length : Int) - (a : Int)) (by omega) (by omega), w64 (x := (a : Int) + ((n + 1 : Nat) : Int)) (by omega) (by omega)]
  refine evNeg (by simp) (evNeg (by omega) (evPos (by omega) (evPos (by omega) (evPos (by omega) ?_))))
  by_cases h2 : b.length < a + (n + 1)
  · rw [if_pos h2]; exact evPos (by omega) (Ev.now _)
  rw [if_neg h2]
  refine evNeg (by omega) (evPos (by omega) (evPos (by omega) ?_))
  have hcut : (b.take ((a : Int) + ((n + 1 : Nat) : Int)).toNat).drop (a : Int).toNat = b[a] :: (b.drop (a + 1)).take n := by
    rw [show ((a : Int) + ((n + 1 : Nat) : Int)).toNat = a + (n + 1) by omega, Int.toNat_natCast, ← List.take_drop, List.drop_eq_getElem_cons ha]
    rfl
  rw [hcut]
  have hx : b[a] = rd b (a : Int) := (rdN b a ha).symm
  have hT : ∀ x ∈ (b.drop (a + 1)).take n, 0 ≤ x ∧ x ≤ 255 := fun x hx => hb x (List.mem_of_mem_drop (List.mem_of_mem_take hx))
  have hTl : ((b.drop (a + 1)).take n).length = n := by rw [List.length_take, List.length_drop]; omega
  refine evBind (unfF _ (by rw [List.length_cons, hTl]; omega) (by
    intro x hx2
    rcases List.mem_cons.1 hx2 with rfl | hx2
    · rw [hx]; exact ⟨x0, x1⟩
    · exact hT x hx2)) ?_
  refine evPos (by rw [w64 (x := 8 * ((n + 1 : Nat) : Int)) (by omega) (by omega), w64 (by omega) (by omega)]; omega) (evNow ?_)
  have hv := valL_lt ((b.drop (a + 1)).take n) (rd b (a : Int) % 64) hT (by omega)
  rw [hTl] at hv
  have hp : (0 : Int) ≤ 256 ^ n := Int.le_of_lt (Int.pow_pos (by decide))
  have h64 : (rd b (a : Int) % 64 + 1) * 256 ^ n ≤ 64 * 256 ^ n := Int.mul_le_mul_of_nonneg_right (by omega) hp
  have he : valL 0 (b[a] :: (b.drop (a + 1)).take n) = valL (rd b (a : Int) % 64) ((b.drop (a + 1)).take n) + 64 * (q : Int) * 256 ^ n := by
    have e1 : valL 0 (b[a] :: (b.drop (a + 1)).take n) = valL (0 * 256 + b[a]) ((b.drop (a + 1)).take n) := rfl
    rw [e1, hx, show 0 * 256 + rd b (a : Int) = rd b (a : Int) % 64 + 64 * (q : Int) by omega, valL_add, hTl]
  rw [he, maskN _ n q hv.1 (by omega) hc, show n + 1 - 1 = n from rfl]
  rfl
theorem gvS_loop (b : List Int) (hl : b.length ≤ 65536) (hb : ∀ x ∈ b, 0 ≤ x ∧ x ≤ 255) (a sz : Nat) (hs : sz ≤ 8) (ha : a + sz ≤ b.length) : ∀ (d i : Nat) (v : Int), i + d = sz → 1 ≤ i → 0 ≤ v → v < 64 * 256 ^ (i - 1) → Ev (fun k => spec_GetVar.l1 k b (a : Int) (sz : Int) v (i : Int)) (valL v ((b.drop (a + i)).take d), ((a + sz : Nat) : Int), 0)
  | 0, i, v, hi, h1, h0, hv => by
    refine evSucc ?_
    simp only [spec_GetVar.l1]
    refine evNeg (by omega) (evNow ?_)
    rw [w64 (by omega) (by omega), List.take_zero]
    have e : valL v [] = v := rfl
    rw [e]
    rfl
  | d + 1, i, v, hi, h1, h0, hv => by
    refine evSucc ?_
    simp only [spec_GetVar.l1]
    have hai : a + i < b.length := by omega
    obtain ⟨x0, x1⟩ := byteAt b hb (a + i) hai
    have hp7 := pow256le (i - 1) (by omega)
    have hadd : wrap64 ((a : Int) + (i : Int)) = ((a + i : Nat) : Int) := by rw [w64 (by omega) (by omega)]; omega
    have hp : (0 : Int) ≤ 256 ^ (i - 1) := Int.le_of_lt (Int.pow_pos (by decide))
    rw [hadd, w64 (x := rd b ((a + i : Nat) : Int)) (by omega) (by omega)]
    have hi6 : i - 1 ≤ 6 := by omega
    have hp6 : (256 : Int) ^ (i - 1) ≤ 281474976710656 := by
      have h1 : (256 : Nat) ^ (i - 1) ≤ 256 ^ 6 := Nat.pow_le_pow_right (by decide) hi6
      have e : (256 : Nat) ^ 6 = 281474976710656 := by decide
      rw [e] at h1
      have h2 := Int.ofNat_le.2 h1
      rw [Int.natCast_pow] at h2
      exact h2
    rw [w64 (x := v * 256) (by omega) (by omega), w64 (x := v * 256 + rd b ((a + i : Nat) : Int)) (by omega) (by omega), w64succ i (by omega)]
    refine evPos (by omega) (evPos (by omega) (evPos (by omega) ?_))
    have ih := gvS_loop b hl hb a sz hs ha d (i + 1) (v * 256 + rd b ((a + i : Nat) : Int)) (by omega) (by omega) (by omega) (by
      have e : i + 1 - 1 = (i - 1) + 1 := by omega
      rw [e, Int.pow_succ]
      omega)
    have e2 : (b.drop (a + i)).take (d + 1) = rd b ((a + i : Nat) : Int) :: (b.drop (a + (i + 1))).take d := by
      rw [List.drop_eq_getElem_cons hai, rdN b (a + i) hai]
      rfl
    rw [e2]
    exact ih
theorem gvS (b : List Int) (hl : b.length ≤ 65536) (hb : ∀ x ∈ b, 0 ≤ x ∧ x ≤ 255) (a : Nat) (h : a ≤ b.length) : Ev (fun k => spec_GetVar.f k b (a : Int)) (gv b a) := by
  unfold spec_GetVar.f
  refine evNeg (by omega) (evNeg (by omega) ?_)
  rw [decide_eq_false (show ¬ (a : Int) > (b.length : Int) by omega)]
  refine evSucc ?_
  simp only [spec_GetVar.j0]
  unfold gv
  by_cases h1 : a = b.length
  · rw [if_pos h1]; exact evNeg (by simp) (evPos (by omega) (Ev.now _))
  rw [if_neg h1]
  have ha : a < b.length := by omega
  obtain ⟨x0, x1⟩ := byteAt b hb a ha
  obtain ⟨q, n, hq, hn, hc⟩ := qcase _ x0 x1
  have hqn : ((rd b (a : Int)) / 64).toNat = q := by rw [hq]; omega
  rw [hqn, hn]
  refine evNeg (by simp) (evNeg (by omega) (evPos (by omega) (evPos (by omega) ?_)))
  have e0 : wrap64 (Int.tdiv (wrap64 (rd b (a : Int))) 64) = (q : Int) := by
    rw [w64 (x := rd b (a : Int)) (by omega) (by omega), Int.tdiv_eq_ediv_of_nonneg x0, hq, w64 (by omega) (by omega)]
  rw [e0]
  have tail : Ev (fun k => spec_GetVar.l0 k b (a : Int) ((n + 1 : Nat) : Int) 0) (if b.length < a + (n + 1) then (0, 0, 2) else (valL (rd b (a : Int) % 64) ((b.drop (a + 1)).take (n + 1 - 1)), ((a + (n + 1) : Nat) : Int), 0)) := by
    refine evSucc ?_
    simp only [spec_GetVar.l0]
    rw [w64 (x := (b.length : Int) - (a : Int)) (by omega) (by omega)]
    refine evNeg (by omega) ?_
    by_cases h2 : b.length < a + (n + 1)
    · rw [if_pos h2]; exact evPos (by omega) (Ev.now _)
    rw [if_neg h2]
    refine evNeg (by omega) (evPos (by omega) (evPos (by omega) ?_))
    rw [w64 (x := rd b (a : Int)) (by omega) (by omega), Int.tmod_eq_emod_of_nonneg x0]
    exact gvS_loop b hl hb a (n + 1) (by omega) (by omega) n 1 _ (by omega) (by omega) (by omega) (by simp; omega)
  have up : ∀ (z y : Int), 0 < y → -1000 ≤ 2 * z → 2 * z ≤ 1000 → y ≤ 1000 → ∀ r, Ev (fun k => spec_GetVar.l0 k b (a : Int) (2 * z) (y - 1)) r → Ev (fun k => spec_GetVar.l0 k b (a : Int) z y) r := by
    intro z y h1 h2 h3 h4 r hr
    refine evSucc ?_
    simp only [spec_GetVar.l0]
    rw [w64 (x := 2 * z) (by omega) (by omega), w64 (x := y - 1) (by omega) (by omega)]
    exact evPos (by omega) hr
  rcases hc with ⟨rfl, rfl⟩ | ⟨rfl, rfl⟩ | ⟨rfl, rfl⟩ | ⟨rfl, rfl⟩
  · exact tail
  · exact up 1 1 (by omega) (by omega) (by omega) (by omega) _ tail
  · exact up 1 2 (by omega) (by omega) (by omega) (by omega) _ (up 2 1 (by omega) (by omega) (by omega) (by omega) _ tail)
  · exact up 1 3 (by omega) (by omega) (by omega) (by omega) _ (up 2 2 (by omega) (by omega) (by omega) (by omega) _ (up 4 1 (by omega) (by omega) (by omega) (by omega) _ tail))

/-! ### a number taken by a state -/
def numF (b : List Int) (a : Nat) (s : Bool) : Int × Nat × Bool := if s = true then (0, a, true) else if (gv b a).2.2 = 0 then ((gv b a).1, (gv b a).2.1.toNat, false) else (0, a, true)
theorem numF_ok (b : List Int) (hb : ∀ x ∈ b, 0 ≤ x ∧ x ≤ 255) (a : Nat) (s : Bool) (h : a ≤ b.length) : 0 ≤ (numF b a s).1 ∧ a ≤ (numF b a s).2.1 ∧ (numF b a s).2.1 ≤ b.length ∧ ((numF b a s).2.2 = false → a < (numF b a s).2.1 ∧ s = false) ∧ ((numF b a s).2.2 = true → (numF b a s).1 = 0) := by
  unfold numF
  cases s with
  | true => rw [if_pos rfl]; exact ⟨Int.le_refl _, Nat.le_refl _, h, by simp, fun _ => rfl⟩
  | false =>
    rw [if_neg (by simp)]
    rcases gv_ok b a hb h with ⟨h1, h2, t, h3, h4, h5⟩ | h1
    · rw [if_pos h1, h3]
      exact ⟨h2, by simp; omega, by simpa using h5, fun _ => ⟨by simpa using h4, rfl⟩, by simp⟩
    · rw [h1, if_neg (by simp)]
      exact ⟨Int.le_refl _, Nat.le_refl _, h, by simp, fun _ => rfl⟩
theorem numS (b : List Int) (hl : b.length ≤ 65536) (hb : ∀ x ∈ b, 0 ≤ x ∧ x ≤ 255) (a : Nat) (s : Bool) (h : a ≤ b.length) : Ev (fun k => spec_rh.num k b (a : Int) s) ((numF b a s).1, ((numF b a s).2.1 : Int), (numF b a s).2.2) := by
  unfold spec_rh.num numF
  cases s with
  | true => rw [if_pos rfl]; exact evNeg (by simp) (Ev.now _)
  | false =>
    rw [if_neg (by simp)]
    refine evPos rfl (evBind (gvS b hl hb a h) ?_)
    rcases gv_ok b a hb h with ⟨h1, h2, t, h3, h4, h5⟩ | h1
    · rw [if_pos h1]; refine evNow ?_; rw [if_pos h1, h3]; simp
    · rw [h1, if_neg (by simp)]; exact evNow (by rw [if_neg (by simp)])
theorem numI0 (b : List Int) (hl : b.length ≤ 65536) (hb : ∀ x ∈ b, 0 ≤ x ∧ x ≤ 255) (a : Nat) (h : a ≤ b.length) : Ev (fun k => impl_rh.num k b (a : Int) 0) ((numF b a false).1, ((numF b a false).2.1 : Int), if (numF b a false).2.2 = true then 2 else 0) := by
  unfold impl_rh.num numF
  rw [if_neg (by simp)]
  refine evPos rfl (evBind (gvI b hl hb a h) ?_)
  rcases gv_ok b a hb h with ⟨h1, h2, t, h3, h4, h5⟩ | h1
  · rw [if_pos h1]; refine evNow ?_; rw [if_pos h1, h3]; simp
  · rw [h1, if_neg (by simp)]; exact evNow (by simp)
theorem numI1 (b : List Int) (a c : Int) (h : c ≠ 0) : Ev (fun k => impl_rh.num k b a c) (0, a, c) := by
  unfold impl_rh.num
  exact evNeg h (Ev.now _)
/-- The second number behind a first one. -/
theorem numI2 (b : List Int) (hl : b.length ≤ 65536) (hb : ∀ x ∈ b, 0 ≤ x ∧ x ≤ 255) (a : Nat) (s : Bool) (h : a ≤ b.length) : Ev (fun k => impl_rh.num k b (a : Int) (if s = true then 2 else 0)) ((numF b a s).1, ((numF b a s).2.1 : Int), if (numF b a s).2.2 = true then 2 else 0) := by
  cases s with
  | true => exact evCast (numI1 b a 2 (by decide)) (by simp [numF])
  | false => exact numI0 b hl hb a h
/-! ### the settings -/
theorem spec_loop (q : List Int) (hl : q.length ≤ 65536) (hb : ∀ x ∈ q, 0 ≤ x ∧ x ≤ 255) : ∀ (d a : Nat) (st : List S122), q.length - a ≤ d → a ≤ q.length → st.length ≤ a →
    ∃ r : Int × Bool × List S122, Ev (fun k => spec_rh.loop k q (a : Int) false st) r ∧ st.length ≤ r.2.2.length := by
  intro d
  induction d with
  | zero =>
    intro a st hd ha hs
    refine ⟨((a : Int), false, st), evSucc ?_, ?_⟩
    · simp only [spec_rh.loop]
      exact evPos ⟨by omega, by omega, by omega, by omega⟩ (evNeg (by omega) (Ev.now _))
    · exact Nat.le_refl _
  | succ d ih =>
    intro a st hd ha hs
    by_cases hlt : a < q.length
    · have n1 := numF_ok q hb a false ha
      have e1 := numS q hl hb a false ha
      generalize numF q a false = x1 at n1 e1
      obtain ⟨v1, a1, s1⟩ := x1
      have n2 := numF_ok q hb a1 s1 n1.2.2.1
      have e2 := numS q hl hb a1 s1 n1.2.2.1
      generalize numF q a1 s1 = x2 at n2 e2
      obtain ⟨v2, a2, s2⟩ := x2
      simp only at n1 n2 e1 e2
      have key : ∃ r : Int × Bool × List S122, Ev (fun k => spec_rh.loop k q (a2 : Int) s2 (st ++ [⟨v1, v2⟩])) r ∧ st.length ≤ r.2.2.length := by
        cases s2 with
        | true =>
          refine ⟨((a2 : Int), true, st ++ [⟨v1, v2⟩]), evSucc ?_, by simp⟩
          simp only [spec_rh.loop]
          exact evPos ⟨by omega, by omega, by omega, by simp; omega⟩ (evNeg (by simp) (Ev.now _))
        | false =>
          obtain ⟨h1, h2⟩ := n2.2.2.2.1 rfl
          obtain ⟨h3, _⟩ := n1.2.2.2.1 h2
          obtain ⟨r, hr, hg⟩ := ih a2 (st ++ [⟨v1, v2⟩]) (by omega) (by omega) (by simp; omega)
          exact ⟨r, hr, by simp at hg; omega⟩
      obtain ⟨r, hr, hg⟩ := key
      refine ⟨r, evSucc ?_, hg⟩
      simp only [spec_rh.loop]
      exact evPos ⟨by omega, by omega, by omega, by omega⟩ (evPos ⟨by omega, by simp⟩ (evBind e1 (evBind e2 hr)))
    · refine ⟨((a : Int), false, st), evSucc ?_, Nat.le_refl _⟩
      simp only [spec_rh.loop]
      exact evPos ⟨by omega, by omega, by omega, by omega⟩ (evNeg (by omega) (Ev.now _))
/-- How what the program has kept stands to what the reference has kept. -/
def RelH (n : Nat) (ri : Int × List Int × List S122 × Int × Int) (rs : Int × List Int × List S122 × Int × Bool) : Prop :=
  (ri.1 = rs.1 ∧ ri.2.1 = rs.2.1 ∧ ri.2.2.1 = rs.2.2.1 ∧ ri.2.2.2.1 = rs.2.2.2.1 ∧ ri.2.2.2.1 ≤ n ∧ (ri.2.2.2.2 = 0 ↔ rs.2.2.2.2 = false) ∧ ri.2.1.length ≤ 65536 ∧ ri.2.2.1.length ≤ 100000) ∨ (16 < ri.2.2.1.length ∧ 16 < rs.2.2.1.length)
theorem loops (q : List Int) (hl : q.length ≤ 65536) (hb : ∀ x ∈ q, 0 ≤ x ∧ x ≤ 255) : ∀ (d a : Nat) (st : List S122), q.length - a ≤ d → a ≤ q.length → st.length ≤ a → st.length ≤ 16 →
    ∃ (ri : Int × Int × List S122) (rs : Int × Bool × List S122), Ev (fun k => impl_rh.loop k q (a : Int) 0 st) ri ∧ Ev (fun k => spec_rh.loop k q (a : Int) false st) rs ∧ RelH q.length (0, [], ri.2.2, ri.1, ri.2.1) (0, [], rs.2.2, rs.1, rs.2.1) := by
  intro d
  induction d with
  | zero =>
    intro a st hd ha hs h16
    refine ⟨((a : Int), 0, st), ((a : Int), false, st), evSucc ?_, evSucc ?_, .inl ⟨rfl, rfl, rfl, rfl, by simp; omega, by simp, by simp, by simp; omega⟩⟩
    · simp only [impl_rh.loop]
      exact evPos ⟨by omega, by omega, by omega, by omega⟩ (evNeg (by omega) (Ev.now _))
    · simp only [spec_rh.loop]
      exact evPos ⟨by omega, by omega, by omega, by omega⟩ (evNeg (by omega) (Ev.now _))
  | succ d ih =>
    intro a st hd ha hs h16
    by_cases hlt : a < q.length
    · have n1 := numF_ok q hb a false ha
      have e1 := numS q hl hb a false ha
      have i1 := numI0 q hl hb a ha
      generalize numF q a false = x1 at n1 e1 i1
      obtain ⟨v1, a1, s1⟩ := x1
      have n2 := numF_ok q hb a1 s1 n1.2.2.1
      have e2 := numS q hl hb a1 s1 n1.2.2.1
      have i2 := numI2 q hl hb a1 s1 n1.2.2.1
      generalize numF q a1 s1 = x2 at n2 e2 i2
      obtain ⟨v2, a2, s2⟩ := x2
      simp only at n1 n2 e1 e2 i1 i2
      have key : ∃ (ri : Int × Int × List S122) (rs : Int × Bool × List S122), Ev (fun k => impl_rh.loop k q (a2 : Int) (if s2 = true then 2 else 0) (st ++ [⟨v1, v2⟩])) ri ∧ Ev (fun k => spec_rh.loop k q (a2 : Int) s2 (st ++ [⟨v1, v2⟩])) rs ∧ RelH q.length (0, [], ri.2.2, ri.1, ri.2.1) (0, [], rs.2.2, rs.1, rs.2.1) := by
        cases s2 with
        | true =>
          refine ⟨((a2 : Int), 2, st ++ [⟨v1, v2⟩]), ((a2 : Int), true, st ++ [⟨v1, v2⟩]), evSucc ?_, evSucc ?_, .inl ⟨rfl, rfl, rfl, rfl, by simp; omega, by simp, by simp, by simp; omega⟩⟩
          · rw [if_pos rfl]
            simp only [impl_rh.loop]
            exact evPos ⟨by omega, by omega, by omega, by simp; omega⟩ (evNeg (by simp) (Ev.now _))
          · simp only [spec_rh.loop]
            exact evPos ⟨by omega, by omega, by omega, by simp; omega⟩ (evNeg (by simp) (Ev.now _))
        | false =>
          rw [if_neg (by simp)]
          obtain ⟨h1, h2⟩ := n2.2.2.2.1 rfl
          obtain ⟨h3, _⟩ := n1.2.2.2.1 h2
          by_cases h17 : st.length = 16
          · obtain ⟨rs, hr, hg⟩ := spec_loop q hl hb d a2 (st ++ [⟨v1, v2⟩]) (by omega) (by omega) (by simp; omega)
            refine ⟨((a2 : Int), 0, st ++ [⟨v1, v2⟩]), rs, evSucc ?_, hr, .inr ⟨by simp; omega, by simp at hg; simp; omega⟩⟩
            simp only [impl_rh.loop]
            exact evPos ⟨by omega, by omega, by omega, by simp; omega⟩ (evNeg (by simp; omega) (Ev.now _))
          · exact ih a2 (st ++ [⟨v1, v2⟩]) (by omega) (by omega) (by simp; omega) (by simp; omega)
      obtain ⟨ri, rs, hi, hs2, hr⟩ := key
      refine ⟨ri, rs, evSucc ?_, evSucc ?_, hr⟩
      · simp only [impl_rh.loop]
        exact evPos ⟨by omega, by omega, by omega, by omega⟩ (evPos ⟨by omega, by simp, h16⟩ (evBind i1 (evBind i2 hi)))
      · simp only [spec_rh.loop]
        exact evPos ⟨by omega, by omega, by omega, by omega⟩ (evPos ⟨by omega, by simp⟩ (evBind e1 (evBind e2 hs2)))
    · refine ⟨((a : Int), 0, st), ((a : Int), false, st), evSucc ?_, evSucc ?_, .inl ⟨rfl, rfl, rfl, rfl, by simp; omega, by simp, by simp, by simp; omega⟩⟩
      · simp only [impl_rh.loop]
        exact evPos ⟨by omega, by omega, by omega, by omega⟩ (evNeg (by omega) (Ev.now _))
      · simp only [spec_rh.loop]
        exact evPos ⟨by omega, by omega, by omega, by omega⟩ (evNeg (by omega) (Ev.now _))
/-! ### the payload -/
theorem takeS (q : List Int) (hl : q.length ≤ 65536) (a n : Nat) (h : a + n ≤ q.length) : spec_rh.take q (a : Int) false (n : Int) = some ((q.drop a).take n, ((a + n : Nat) : Int), false) := by
  unfold spec_rh.take
  rw [if_pos ⟨by omega, by omega, by omega, by omega⟩, if_pos rfl, if_neg (by omega)]
  simp
theorem takeI (q : List Int) (hl : q.length ≤ 65536) (a n : Nat) (h : a + n ≤ q.length) : impl_rh.take q (a : Int) 0 (n : Int) = some ((q.drop a).take n, ((a + n : Nat) : Int), 0) := by
  unfold impl_rh.take
  rw [if_pos ⟨by omega, by omega, by omega⟩, if_pos rfl, if_neg (by omega)]
  simp
theorem bodies (q : List Int) (hl : q.length ≤ 65536) (hb : ∀ x ∈ q, 0 ≤ x ∧ x ≤ 255) (v : Int) : ∃ ri rs, Ev (fun k => impl_rh.body k v q) ri ∧ Ev (fun k => spec_rh.body k v q) rs ∧ RelH q.length ri rs := by
  unfold impl_rh.body spec_rh.body
  by_cases h4 : v = 4
  · obtain ⟨ri, rs, h1, h2, h3⟩ := loops q hl hb q.length 0 [] (by omega) (by omega) (by simp) (by simp)
    exact ⟨(0, [], ri.2.2, ri.1, ri.2.1), (0, [], rs.2.2, rs.1, rs.2.1), evPos h4 (evBind h1 (Ev.now _)), evPos h4 (evBind h2 (Ev.now _)), h3⟩
  have n1 := numF_ok q hb 0 false (Nat.zero_le _)
  have e1 := numS q hl hb 0 false (Nat.zero_le _)
  have i1 := numI0 q hl hb 0 (Nat.zero_le _)
  generalize numF q 0 false = x1 at n1 e1 i1
  obtain ⟨v1, a1, s1⟩ := x1
  simp only at n1 e1 i1
  by_cases h7 : v = 7
  · refine ⟨(v1, [], [], (a1 : Int), if s1 = true then 2 else 0), (v1, [], [], (a1 : Int), s1), evNeg h4 (evPos h7 (evBind i1 (Ev.now _))), evNeg h4 (evPos h7 (evBind e1 (Ev.now _))), .inl ⟨rfl, rfl, rfl, rfl, Int.ofNat_le.2 n1.2.2.1, ?_, Nat.zero_le _, Nat.zero_le _⟩⟩
    cases s1 <;> simp
  by_cases h15 : v = 15
  · cases s1 with
    | true =>
      have tS : spec_rh.take q (a1 : Int) true ((q.length : Int) - (a1 : Int)) = some ([], (a1 : Int), true) := by
        unfold spec_rh.take
        rw [if_pos ⟨by omega, by omega, by omega, by omega⟩, if_neg (by simp)]
      have tI : impl_rh.take q (a1 : Int) 2 ((q.length : Int) - (a1 : Int)) = some ([], (a1 : Int), 2) := by
        unfold impl_rh.take
        rw [if_pos ⟨by omega, by omega, by omega⟩, if_neg (by decide)]
      have i2 : Ev (fun k => impl_rh.num k q ((0 : Nat) : Int) 0) (v1, (a1 : Int), 2) := i1
      refine ⟨(v1, [], [], (a1 : Int), 2), (v1, [], [], (a1 : Int), true), evNeg h4 (evNeg h7 (evPos h15 (evBind i2 (evPut tI (Ev.now _))))), evNeg h4 (evNeg h7 (evPos h15 (evBind e1 (evPut tS (Ev.now _))))), .inl ⟨rfl, rfl, rfl, rfl, Int.ofNat_le.2 n1.2.2.1, ?_, Nat.zero_le _, Nat.zero_le _⟩⟩
      simp
    | false =>
      have en : (q.length : Int) - (a1 : Int) = ((q.length - a1 : Nat) : Int) := by omega
      have ez : a1 + (q.length - a1) = q.length := by omega
      have tS : spec_rh.take q (a1 : Int) false ((q.length : Int) - (a1 : Int)) = some ((q.drop a1).take (q.length - a1), (q.length : Int), false) := by
        rw [en, takeS q hl a1 (q.length - a1) (by omega), ez]
      have tI : impl_rh.take q (a1 : Int) 0 ((q.length : Int) - (a1 : Int)) = some ((q.drop a1).take (q.length - a1), (q.length : Int), 0) := by
        rw [en, takeI q hl a1 (q.length - a1) (by omega), ez]
      have i2 : Ev (fun k => impl_rh.num k q ((0 : Nat) : Int) 0) (v1, (a1 : Int), 0) := i1
      have hlen : ((q.drop a1).take (q.length - a1)).length ≤ 65536 := by rw [List.length_take, List.length_drop]; omega
      refine ⟨(v1, (q.drop a1).take (q.length - a1), [], (q.length : Int), 0), (v1, (q.drop a1).take (q.length - a1), [], (q.length : Int), false), evNeg h4 (evNeg h7 (evPos h15 (evBind i2 (evPut tI (Ev.now _))))), evNeg h4 (evNeg h7 (evPos h15 (evBind e1 (evPut tS (Ev.now _))))), .inl ⟨rfl, rfl, rfl, rfl, Int.le_refl _, ?_, hlen, Nat.zero_le _⟩⟩
      simp
  · have tS := takeS q hl 0 q.length (by omega)
    have tI := takeI q hl 0 q.length (by omega)
    rw [Nat.zero_add] at tS tI
    have hlen : ((q.drop 0).take q.length).length ≤ 65536 := by rw [List.length_take, List.length_drop]; omega
    refine ⟨(0, (q.drop 0).take q.length, [], (q.length : Int), 0), (0, (q.drop 0).take q.length, [], (q.length : Int), false), evNeg h4 (evNeg h7 (evNeg h15 (evPut tI (Ev.now _)))), evNeg h4 (evNeg h7 (evNeg h15 (evPut tS (Ev.now _)))), .inl ⟨rfl, rfl, rfl, rfl, Int.le_refl _, ?_, hlen, Nat.zero_le _⟩⟩
    simp
theorem hyperP_many (k a : Int) (d : List Int) (s : List S122) (h : 16 < s.length) : hyperP k a d s = false := by
  unfold hyperP
  have : decide (s.length ≤ 16) = false := decide_eq_false (by omega)
  simp [this]
def fine (r : Int × Int × List Int × List S122 × Int × Int) : Prop := r.2.2.1.length ≤ 65536 ∧ r.2.2.2.1.length ≤ 100000
theorem ends_ (q : List Int) (v p : Int) (ri rs) (h : RelH q.length ri rs) : ∃ r : Int × Int × List Int × List S122 × Int × Int, Ev (fun k => impl_rh.fin k v p q ri) r ∧ Ev (fun k => spec_rh.fin k v p q rs) r ∧ fine r := by
  obtain ⟨ai, di, si, pi, ci⟩ := ri
  obtain ⟨az, dz, sz, pz, cz⟩ := rs
  have no3 : fine (0, 0, [], [], 0, 3) := ⟨by simp, by simp⟩
  unfold impl_rh.fin spec_rh.fin
  rcases h with ⟨h1, h2, h3, h4, h5, h6, h7, h8⟩ | ⟨h1, h2⟩
  · simp only at h1 h2 h3 h4 h5 h6 h7 h8
    subst h1 h2 h3 h4
    by_cases hc : ci = 0 ∧ ¬ pi < (q.length : Int)
    · refine ⟨if hyperP v ai di si = true then (v, ai, di, si, p, 0) else (0, 0, [], [], 0, 3), evPos hc (evBind (hyperI v ai di si) (Ev.now _)), evPos ⟨h6.1 hc.1, by simp only; omega⟩ (evBind (hyperS v ai di si) (Ev.now _)), ?_⟩
      by_cases hp : hyperP v ai di si = true
      · rw [if_pos hp]; exact ⟨h7, h8⟩
      · rw [if_neg hp]; exact no3
    · exact ⟨_, evNeg hc (Ev.now _), evNeg (fun h => hc ⟨h6.2 h.1, by have := h.2; simp only at this ⊢; omega⟩) (Ev.now _), no3⟩
  · simp only at h1 h2
    refine ⟨(0, 0, [], [], 0, 3), ?_, ?_, no3⟩
    · exact evSplit (fun _ => evBind (hyperI v ai di si) (evNow (by rw [hyperP_many v ai di si h1]; rfl))) (fun _ => Ev.now _)
    · exact evSplit (fun _ => evBind (hyperS v az dz sz) (evNow (by rw [hyperP_many v az dz sz h2]; rfl))) (fun _ => Ev.now _)
theorem readH (l : List Int) (hl1 : l.length ≤ 1048576) (hb : ∀ x ∈ l, 0 ≤ x ∧ x ≤ 255) (a : Int) : ∃ r : Int × Int × List Int × List S122 × Int × Int, Ev (fun k => spec_ReadHyper.f k l a) r ∧ Ev (fun k => impl_ReadHyper.f k l a) r ∧ fine r := by
  have no_ : ∀ e, fine (0, 0, [], [], 0, e) := fun e => ⟨by simp, by simp⟩
  unfold spec_ReadHyper.f impl_ReadHyper.f
  by_cases h1 : 65536 < l.length
  · exact ⟨_, evPos h1 (Ev.now _), evPos h1 (Ev.now _), no_ 4⟩
  by_cases h2 : ¬ (0 ≤ a ∧ a ≤ l.length)
  · exact ⟨_, evNeg h1 (evNeg h2 (Ev.now _)), evNeg h1 (evNeg h2 (Ev.now _)), no_ 1⟩
  replace h2 : 0 ≤ a ∧ a ≤ l.length := by omega
  have hl : l.length ≤ 65536 := by omega
  obtain ⟨m, rfl⟩ : ∃ m : Nat, a = (m : Int) := ⟨a.toNat, by omega⟩
  have hm : m ≤ l.length := by omega
  have n1 := numF_ok l hb m false hm
  have e1 := numS l hl hb m false hm
  have i1 := numI0 l hl hb m hm
  generalize numF l m false = x1 at n1 e1 i1
  obtain ⟨v1, a1, s1⟩ := x1
  have n2 := numF_ok l hb a1 s1 n1.2.2.1
  have e2 := numS l hl hb a1 s1 n1.2.2.1
  have i2 := numI2 l hl hb a1 s1 n1.2.2.1
  generalize numF l a1 s1 = x2 at n2 e2 i2
  obtain ⟨v2, a2, s2⟩ := x2
  simp only at n1 n2 e1 e2 i1 i2
  cases s2 with
  | true =>
    have hv : v2 = 0 := n2.2.2.2.2 rfl
    subst hv
    have tS : spec_rh.take l (a2 : Int) true 0 = some ([], (a2 : Int), true) := by
      unfold spec_rh.take
      rw [if_pos ⟨by omega, by omega, by omega, by omega⟩, if_neg (by simp)]
    have tI : impl_rh.take l (a2 : Int) (if 16384 < (0 : Int) ∧ (if true = true then (2 : Int) else 0) = 0 then 3 else (if true = true then 2 else 0)) 0 = some ([], (a2 : Int), 2) := by
      unfold impl_rh.take
      simp
      omega
    exact ⟨_, evNeg h1 (evPos h2 (evBind e1 (evBind e2 (evNeg (by simp) (evPut tS (evNeg (by simp) (Ev.now _))))))), evNeg h1 (evPos h2 (evBind i1 (evBind i2 (evPut tI (evNeg (by simp) (Ev.now _)))))), no_ 2⟩
  | false =>
    by_cases h3 : 16384 < v2
    · have tI : impl_rh.take l (a2 : Int) (if 16384 < v2 ∧ (if false = true then (2 : Int) else 0) = 0 then 3 else (if false = true then 2 else 0)) v2 = some ([], (a2 : Int), 3) := by
        unfold impl_rh.take
        simp [h3]
        omega
      exact ⟨_, evNeg h1 (evPos h2 (evBind e1 (evBind e2 (evPos ⟨rfl, h3⟩ (Ev.now _))))), evNeg h1 (evPos h2 (evBind i1 (evBind i2 (evPut tI (evNeg (by simp) (Ev.now _)))))), no_ 3⟩
    have i3 : Ev (fun k => impl_rh.num k l (a1 : Int) (if s1 = true then 2 else 0)) (v2, (a2 : Int), (0 : Int)) := i2
    have hcode : (if 16384 < v2 ∧ (0 : Int) = 0 then (3 : Int) else 0) = 0 := by simp [h3]
    obtain ⟨n, rfl⟩ : ∃ n : Nat, v2 = (n : Int) := ⟨v2.toNat, by omega⟩
    by_cases h4 : a2 + n ≤ l.length
    · have tS := takeS l hl a2 n h4
      have tI2 : impl_rh.take l (a2 : Int) (if 16384 < (n : Int) ∧ (0 : Int) = 0 then 3 else 0) (n : Int) = some ((l.drop a2).take n, ((a2 + n : Nat) : Int), 0) := by rw [hcode]; exact takeI l hl a2 n h4
      have hq : ((l.drop a2).take n).length ≤ 65536 := by rw [List.length_take, List.length_drop]; omega
      obtain ⟨ri, rs, b1, b2, b3⟩ := bodies ((l.drop a2).take n) hq (fun x hx => hb x (List.mem_of_mem_drop (List.mem_of_mem_take hx))) v1
      obtain ⟨r, f1, f2, f3⟩ := ends_ ((l.drop a2).take n) v1 ((a2 + n : Nat) : Int) ri rs b3
      exact ⟨r, evNeg h1 (evPos h2 (evBind e1 (evBind e2 (evNeg (fun h => h3 h.2) (evPut tS (evPos rfl (evBind b2 f2))))))), evNeg h1 (evPos h2 (evBind i1 (evBind i3 (evPut tI2 (evPos rfl (evBind b1 f1)))))), f3⟩
    · have tS : spec_rh.take l (a2 : Int) false (n : Int) = some ([], (a2 : Int), true) := by
        unfold spec_rh.take
        rw [if_pos ⟨by omega, by omega, by omega, by omega⟩, if_pos rfl, if_pos (by omega)]
      have tI : impl_rh.take l (a2 : Int) 0 (n : Int) = some ([], (a2 : Int), 2) := by
        unfold impl_rh.take
        rw [if_pos ⟨by omega, by omega, by omega⟩, if_pos rfl, if_pos (by omega)]
      have tI2 : impl_rh.take l (a2 : Int) (if 16384 < (n : Int) ∧ (0 : Int) = 0 then 3 else 0) (n : Int) = some ([], (a2 : Int), 2) := by rw [hcode]; exact tI
      exact ⟨_, evNeg h1 (evPos h2 (evBind e1 (evBind e2 (evNeg (fun h => h3 h.2) (evPut tS (evNeg (by simp) (Ev.now _))))))), evNeg h1 (evPos h2 (evBind i1 (evBind i3 (evPut tI2 (evNeg (by simp) (Ev.now _)))))), no_ 2⟩

/-! ### the frame that is handed back: compared, marked, held -/
theorem eqSet1 (x : S122) : laws_eqSetting.f x.f0 x.f1 x.f0 x.f1 = some true := by
  unfold laws_eqSetting.f; simp
theorem eqSet_loop (l : List S122) (hl : l.length < 4611686018427387904) : ∀ (d i : Nat), i + d = l.length → Ev (fun k => laws_eqSettingS.l0 k l l (i : Int)) true := by
  intro d
  induction d with
  | zero =>
    intro i h
    refine evSucc ?_
    simp only [laws_eqSettingS.l0]
    exact evNeg (by omega) (Ev.now _)
  | succ d ih =>
    intro i h
    refine evSucc ?_
    simp only [laws_eqSettingS.l0]
    refine evPos (by omega) (evPos (by omega) (evPos (by omega) (evPut (eqSet1 _) (evPos rfl ?_))))
    rw [w64succ i (by omega)]
    exact ih (i + 1) (by omega)
theorem eqSet (l : List S122) (hl : l.length < 4611686018427387904) : Ev (fun k => laws_eqSettingS.f k l l) true := by
  unfold laws_eqSettingS.f
  exact evPos rfl (eqSet_loop l hl l.length 0 (by omega))
theorem eqHF (k a : Int) (d : List Int) (s : List S122) (hd : d.length < 4611686018427387904) (hs : s.length < 4611686018427387904) : Ev (fun n => laws_eqHFrame.f n k a d s k a d s) true := by
  unfold laws_eqHFrame.f
  exact evPos rfl (evPos rfl (evBind (eqB d hd) (evPos rfl (evBind (eqSet s hs) (evPos rfl (Ev.now _))))))
theorem markS_loop (m : Int) (n : Nat) (h0 : 0 ≤ m) (hm : m + 2 * n < 4611686018427387904) : ∀ (d i : Nat) (l : List S122), i + d = n → l.length = n → (∀ j : Nat, j < i → rd_T122 l (j : Int) = ⟨m + 2 * j, m + 2 * j + 1⟩) →
    ∃ l' : List S122, l'.length = n ∧ (∀ j : Nat, j < n → rd_T122 l' (j : Int) = ⟨m + 2 * j, m + 2 * j + 1⟩) ∧ Ev (fun k => laws_markSettingS.l0 k l (m + 2 * i) (i : Int)) (m + 2 * n, l') := by
  intro d
  induction d with
  | zero =>
    intro i l h hl hj
    refine ⟨l, hl, fun j hj' => hj j (by omega), evSucc ?_⟩
    simp only [laws_markSettingS.l0]
    refine evNeg (by omega) (evNow ?_)
    have : i = n := by omega
    rw [this]
  | succ d ih =>
    intro i l h hl hj
    have hil : i < l.length := by omega
    obtain ⟨y, hy⟩ : ∃ y, y = l.set i (⟨m + 2 * i, (rd_T122 l (i : Int)).f1⟩ : S122) := ⟨_, rfl⟩
    have hyl : y.length = n := by rw [hy]; simpa using hl
    have hy0 : (rd_T122 y (i : Int)).f0 = m + 2 * i := by
      rw [rdSet y i (by omega)]
      subst hy
      simp
    obtain ⟨l', hl', hj', e⟩ := ih (i + 1) (y.set i (⟨m + 2 * i, m + 2 * i + 1⟩ : S122)) (by omega) (by simpa using hyl) (by
      intro j hj1
      by_cases hji : j = i
      · subst hji
        rw [rdSet _ j (by simp; omega)]
        simp
      · have h1 := hj j (by omega)
        rw [rdSet _ j (by simp; omega)]
        rw [rdSet l j (by omega)] at h1
        subst hy
        rw [List.getElem_set_ne (by omega), List.getElem_set_ne (by omega)]
        exact h1)
    refine ⟨l', hl', hj', evSucc ?_⟩
    simp only [laws_markSettingS.l0]
    refine evPos (by omega) (evPos (by omega) ?_)
    rw [Int.toNat_natCast]
    refine evPut (a := y) (by rw [hy]) ?_
    rw [hy0, w64 (x := m + 2 * (i : Int) + 1) (by omega) (by omega), w64 (x := m + 2 * (i : Int) + 1 + 1) (by omega) (by omega), w64succ i (by omega)]
    have e2 : m + 2 * (i : Int) + 1 + 1 = m + 2 * ((i + 1 : Nat) : Int) := by omega
    rw [e2]
    exact e
theorem markS (l : List S122) (m : Int) (h0 : 0 ≤ m) (hm : m + 2 * l.length < 4611686018427387904) :
    ∃ l' : List S122, l'.length = l.length ∧ (∀ j : Nat, j < l.length → rd_T122 l' (j : Int) = ⟨m + 2 * j, m + 2 * j + 1⟩) ∧ Ev (fun k => laws_markSettingS.f k l m) (m + 2 * l.length, l') := by
  obtain ⟨l', h1, h2, h3⟩ := markS_loop m l.length h0 hm l.length 0 l (by omega) rfl (by omega)
  refine ⟨l', h1, h2, ?_⟩
  unfold laws_markSettingS.f
  simpa using h3
theorem heldS (m : Int) (l : List S122) (h0 : 0 ≤ m) (hm : m + 2 * l.length < 4611686018427387904) (hj : ∀ j : Nat, j < l.length → rd_T122 l (j : Int) = ⟨m + 2 * j, m + 2 * j + 1⟩) :
    ∀ (d i : Nat), i + d = l.length → Ev (fun k => laws_heldSettingS.l0 k l (m + 2 * i) (i : Int)) (m + 2 * l.length) := by
  intro d
  induction d with
  | zero =>
    intro i h
    refine evSucc ?_
    simp only [laws_heldSettingS.l0]
    refine evNeg (by omega) (evNow ?_)
    have : i = l.length := by omega
    rw [this]
  | succ d ih =>
    intro i h
    refine evSucc ?_
    simp only [laws_heldSettingS.l0]
    rw [hj i (by omega), w64 (x := m + 2 * (i : Int) + 1) (by omega) (by omega), w64 (x := m + 2 * (i : Int) + 1 + 1) (by omega) (by omega), w64succ i (by omega)]
    have e2 : m + 2 * (i : Int) + 1 + 1 = m + 2 * ((i + 1 : Nat) : Int) := by omega
    rw [e2]
    exact evPos (by omega) (evPos (by omega) (evPos rfl (evPos rfl (ih (i + 1) (by omega)))))
theorem FnExactReadHyper : laws_FnExactReadHyper.Pure := by
  intro l0 a1 _ _ hb _
  refine evEnds ?_
  unfold laws_FnExactReadHyper.f
  refine evSplit (fun _ => Ev.now _) (fun c0 => ?_)
  have hl : l0.length ≤ 1048576 := by omega
  have t0 := toB l0 (by omega)
  obtain ⟨r, hs, hi, h1, h2⟩ := readH l0 hl (fun x hx => wfB (hb x hx)) a1
  obtain ⟨k, a, d, s, p, c⟩ := r
  simp only at h1 h2
  obtain ⟨m0, _, _, q0⟩ := markB l0 1 (by omega) (by omega)
  obtain ⟨d', d1, d2, d3⟩ := markB d 1 (by omega) (by omega)
  obtain ⟨s', s1, s2, s3⟩ := markS s (1 + d.length) (by omega) (by omega)
  have hd := heldB 1 d' (by omega) (by omega) (by rw [d1]; exact d2)
  have hs3 := heldS (1 + d.length) s' (by omega) (by omega) (by rw [s1]; exact s2) s'.length 0 (by omega)
  have hm : Ev (fun n => laws_markHFrame.f n k a d s 1) (1 + (d.length : Int) + 2 * (s.length : Int), d', s') := by
    unfold laws_markHFrame.f
    exact evBind d3 (evBind s3 (Ev.now _))
  have hh : Ev (fun n => laws_heldHFrame.f n k a d' s' 1) (1 + (d.length : Int) + 2 * (s.length : Int)) := by
    unfold laws_heldHFrame.f
    rw [d1] at hd
    refine evBind hd (evNeg (by omega) (evBind (a := 1 + (d.length : Int) + 2 * (s.length : Int)) ?_ (evNeg (by omega) (Ev.now _))))
    unfold laws_heldSettingS.f
    rw [s1] at hs3
    simpa using hs3
  have he := eqHF k a d s (by omega) (by omega)
  refine evBind t0 (evBind hs (evBind t0 (evBind hi (evBind he (evPos rfl (evPos rfl (evSucc ?_)))))))
  simp only [laws_FnExactReadHyper.j0]
  refine evNeg (by simp) (evBind t0 (evBind (eqB l0 (by omega)) (evPos rfl (evBind q0 (evNeg (by omega) (evBind he (evPos rfl (evPos (by simp) (evSucc ?_)))))))))
  simp only [laws_FnExactReadHyper.j1]
  refine evNeg (by simp) (evBind hm (evBind hh (evNeg (by omega) (evPos rfl (evBind t0 (evBind hi (evBind he (evPos rfl (evPos rfl (evSucc ?_))))))))))
  simp only [laws_FnExactReadHyper.j2]
  exact evNeg (by simp) (evBind hh (evNeg (by omega) (evPos rfl (Ev.now _))))

end Go.Proofs.Ytkloeccbhjngiaa.Pure
