/- The program's HyperBytes answers what the reference's answers, in memory of its own, for every frame; no condition. -/
import Derived.Test.YtolpikjbdfpdcaaPFnExactHyperBytesx0
import Derived.Test.YtolpikjbdfpdcaaPFnExactHyperBytesx1
import Derived.Test.YtolpikjbdfpdcaaPFnExactHyperBytesx2
import Derived.Test.YtolpikjbdfpdcaaPFnExactHyperBytesx3
import Derived.Test.YtolpikjbdfpdcaaPFnExactHyperBytesx4
import Derived.Test.YtolpikjbdfpdcaaPFnExactHyperBytesx5
import Derived.Test.YtolpikjbdfpdcaaPFnExactHyperBytesx6
import Derived.Test.YtolpikjbdfpdcaaPFnExactHyperBytesx7
import Derived.Test.YtolpikjbdfpdcaaPFnExactHyperBytesx8
import Derived.Test.YtolpikjbdfpdcaaStmtFnExactHyperBytes
import Derived.Laws.BitsLemmas
import Derived.Laws.BitsAllLaws
set_option linter.unusedVariables false
set_option linter.unusedSimpArgs false
set_option maxRecDepth 4000
namespace Go.Proofs.Ytolpikjbdfpdcaa.Pure
open Go.RowKit Go.Proofs.Ytolpikjbdfpdcaa.PFnExactHyperBytes Go.Proofs.YtolpikjbdfpdcaaW.PrintWords Go.Proofs.YtolpikjbdfpdcaaW.PrintLast Go.Proofs.YtolpikjbdfpdcaaW.PrintMore

/-! ### tools: what a printed function comes to -/
theorem evSucc {α : Type} {g : Nat → Option α} {r : α} (h : Ev (fun k => g (k + 1)) r) : Ev g r := Ev.step (fun _ => rfl) h
theorem evPos {α : Type} {c : Prop} {dc : Decidable c} {a b : Nat → Option α} {r : α} (h : c) (e : Ev a r) : Ev (fun k => if c then a k else b k) r :=
  Ev.congr (fun _ => if_pos h) e
theorem evNeg {α : Type} {c : Prop} {dc : Decidable c} {a b : Nat → Option α} {r : α} (h : ¬ c) (e : Ev b r) : Ev (fun k => if c then a k else b k) r :=
  Ev.congr (fun _ => if_neg h) e
theorem evSplit {α : Type} {c : Prop} {dc : Decidable c} {a b : Nat → Option α} {r : α} (h : c → Ev a r) (h' : ¬ c → Ev b r) : Ev (fun k => if c then a k else b k) r := by
  by_cases hc : c
  · exact evPos hc (h hc)
  · exact evNeg hc (h' hc)
theorem evBind {α β : Type} {g : Nat → Option α} {f : Nat → α → Option β} {a : α} {r : β} (h : Ev g a) (k : Ev (fun n => f n a) r) : Ev (fun n => (g n).bind (f n)) r := Ev.bind h k
theorem evPut {α β : Type} {o : Option α} {f : Nat → α → Option β} {a : α} {r : β} (h : o = some a) (k : Ev (fun n => f n a) r) : Ev (fun n => o.bind (f n)) r :=
  Ev.congr (fun _ => by rw [h]; rfl) k
theorem evNow {α : Type} {r r' : α} (h : r = r') : Ev (fun _ => some r) r' := h ▸ Ev.now r
theorem evOf {α : Type} {o : Option α} {r : α} (h : o = some r) : Ev (fun _ => o) r := ⟨0, fun _ _ => h⟩
theorem evEnds {α : Type} {g : Nat → Option α} {r : α} (h : Ev g r) : ∃ k, g k = some r := Ev.rounds h
theorem w64 {x : Int} (h : -9223372036854775808 ≤ x) (h' : x ≤ 9223372036854775807) : wrap64 x = x := by unfold wrap64; omega
theorem w64succ (i : Nat) (h : i < 4611686018427387904) : wrap64 ((i : Int) + 1) = ((i + 1 : Nat) : Int) := by unfold wrap64; omega
theorem wfI {x : Int} (h : (Lit.int .i64 x).wf = true) : -9223372036854775808 ≤ x ∧ x ≤ 9223372036854775807 := by
  simp only [Lit.wf, IntKind.min, IntKind.max, IntKind.bits, IntKind.signed, Bool.and_eq_true, decide_eq_true_eq] at h
  simpa using h
theorem wfB {x : Int} (h : (Lit.int .u8 x).wf = true) : 0 ≤ x ∧ x ≤ 255 := by
  simp only [Lit.wf, IntKind.min, IntKind.max, IntKind.bits, IntKind.signed, Bool.and_eq_true, decide_eq_true_eq] at h
  simpa using h
theorem rdN (l : List Int) (i : Nat) (h : i < l.length) : rd l (i : Int) = l[i] := by simp [rd, List.getD_eq_getElem?_getD, h]
theorem fillStep {α : Type} (l : List α) (z : α) (i d : Nat) (h : i + (d + 1) = l.length) : (l.take i ++ List.replicate (d + 1) z).set i (l[i]'(by omega)) = l.take (i + 1) ++ List.replicate d z := by
  rw [List.set_append_right _ _ (by simp; omega), List.take_succ_eq_append_getElem (show i < l.length by omega), List.append_assoc]
  congr 1
  have e : i - (l.take i).length = 0 := by simp; omega
  rw [e]
  rfl
theorem evCast {α : Type} {g : Nat → Option α} {r r' : α} (h : Ev g r') (e : r' = r) : Ev g r := e ▸ h

/-! ### the laws' own helpers on bytes -/
theorem eqB_loop (l : List Int) (hl : l.length < 4611686018427387904) : ∀ (d i : Nat), i + d = l.length → Ev (fun k => laws_eqByteS.l0 k l l (i : Int)) true := by
  intro d
  induction d with
  | zero =>
    intro i h
    refine evSucc ?_
    simp only [laws_eqByteS.l0]
    exact evNeg (by omega) (Ev.now _)
  | succ d ih =>
    intro i h
    refine evSucc ?_
    simp only [laws_eqByteS.l0]
    refine evPos (by omega) (evPos (by omega) (evPos (by omega) (evPos (by first | rfl | trivial) ?_)))
    rw [w64succ i (by omega)]
    exact ih (i + 1) (by omega)
theorem eqB (l : List Int) (hl : l.length < 4611686018427387904) : Ev (fun k => laws_eqByteS.f k l l) true := by
  unfold laws_eqByteS.f
  exact evPos rfl (eqB_loop l hl l.length 0 (by omega))

theorem toB_loop (l : List Int) (hl : l.length < 4611686018427387904) : ∀ (d i : Nat), i + d = l.length → Ev (fun k => laws_toByteS.l0 k l (l.take i ++ List.replicate d 0) (i : Int)) l := by
  intro d
  induction d with
  | zero =>
    intro i h
    refine evSucc ?_
    simp only [laws_toByteS.l0]
    refine evNeg (by omega) (evNow ?_)
    simp [List.take_of_length_le (show l.length ≤ i by omega)]
  | succ d ih =>
    intro i h
    refine evSucc ?_
    simp only [laws_toByteS.l0]
    refine evPos (by omega) (evPos (by omega) (evPos (by simp; omega) ?_))
    rw [w64succ i (by omega), rdN l i (by omega), Int.toNat_natCast, fillStep l 0 i d h]
    exact ih (i + 1) (by omega)
theorem toB (l : List Int) (hl : l.length ≤ 140737488351232) : Ev (fun k => laws_toByteS.f k l) l := by
  unfold laws_toByteS.f
  refine evPos (by omega) (evPos (by omega) ?_)
  have := toB_loop l (by omega) l.length 0 (by omega)
  simpa using this

theorem markB_loop (m : Int) (n : Nat) (h0 : 0 ≤ m) (hm : m + n < 4611686018427387904) : ∀ (d i : Nat) (l : List Int), i + d = n → l.length = n → (∀ j : Nat, j < i → rd l (j : Int) = (m + j) % 256) →
    ∃ l' : List Int, l'.length = n ∧ (∀ j : Nat, j < n → rd l' (j : Int) = (m + j) % 256) ∧ Ev (fun k => laws_markByteS.l0 k l (m + i) (i : Int)) (m + n, l') := by
  intro d
  induction d with
  | zero =>
    intro i l h hl hj
    refine ⟨l, hl, fun j hj' => hj j (by omega), evSucc ?_⟩
    simp only [laws_markByteS.l0]
    refine evNeg (by omega) (evNow ?_)
    have : i = n := by omega
    rw [this]
  | succ d ih =>
    intro i l h hl hj
    obtain ⟨l', hl', hj', e⟩ := ih (i + 1) (l.set i ((m + i) % 256)) (by omega) (by simpa using hl) (by
      intro j hj1
      by_cases hji : j = i
      · subst hji
        simp [rd, List.getD_eq_getElem?_getD, hl, show j < n by omega]
      · have := hj j (by omega)
        simp only [rd, List.getD_eq_getElem?_getD, Int.toNat_natCast] at this ⊢
        rw [List.getElem?_set_ne (by omega)]
        exact this)
    refine ⟨l', hl', hj', evSucc ?_⟩
    simp only [laws_markByteS.l0]
    refine evPos (by omega) (evPos (by omega) ?_)
    rw [w64succ i (by omega), w64 (by omega) (by omega), Int.toNat_natCast]
    have e2 : m + (i : Int) + 1 = m + ((i + 1 : Nat) : Int) := by omega
    rw [e2]
    exact e
theorem markB (l : List Int) (m : Int) (h0 : 0 ≤ m) (hm : m + l.length < 4611686018427387904) :
    ∃ l' : List Int, l'.length = l.length ∧ (∀ j : Nat, j < l.length → rd l' (j : Int) = (m + j) % 256) ∧ Ev (fun k => laws_markByteS.f k l m) (m + l.length, l') := by
  obtain ⟨l', h1, h2, h3⟩ := markB_loop m l.length h0 hm l.length 0 l (by omega) rfl (by omega)
  refine ⟨l', h1, h2, ?_⟩
  unfold laws_markByteS.f
  simpa using h3
theorem heldB_loop (m : Int) (l : List Int) (h0 : 0 ≤ m) (hm : m + l.length < 4611686018427387904) (hj : ∀ j : Nat, j < l.length → rd l (j : Int) = (m + j) % 256) :
    ∀ (d i : Nat), i + d = l.length → Ev (fun k => laws_heldByteS.l0 k l (m + i) (i : Int)) (m + l.length) := by
  intro d
  induction d with
  | zero =>
    intro i h
    refine evSucc ?_
    simp only [laws_heldByteS.l0]
    refine evNeg (by omega) (evNow ?_)
    have : i = l.length := by omega
    rw [this]
  | succ d ih =>
    intro i h
    refine evSucc ?_
    simp only [laws_heldByteS.l0]
    refine evPos (by omega) (evPos (by omega) (evPos (hj i (by omega)) ?_))
    rw [w64succ i (by omega), w64 (by omega) (by omega)]
    have e2 : m + (i : Int) + 1 = m + ((i + 1 : Nat) : Int) := by omega
    rw [e2]
    exact ih (i + 1) (by omega)
theorem heldB (m : Int) (l : List Int) (h0 : 0 ≤ m) (hm : m + l.length < 4611686018427387904) (hj : ∀ j : Nat, j < l.length → rd l (j : Int) = (m + j) % 256) :
    Ev (fun k => laws_heldByteS.f k l m) (m + l.length) := by
  unfold laws_heldByteS.f
  have := heldB_loop m l h0 hm hj l.length 0 (by omega)
  simpa using this

/-! ### slices of Setting: the copy, the comparison -/
def ofSetting (x : S177) : S143 := ⟨x.f0, x.f1⟩
theorem toSetting_loop (l : List S177) (hl : l.length < 4611686018427387904) : ∀ (d i : Nat), i + d = l.length → Ev (fun k => laws_toSettingS.l0 k l ((l.map ofSetting).take i ++ List.replicate d z143) (i : Int)) (l.map ofSetting) := by
  intro d
  induction d with
  | zero =>
    intro i h
    refine evSucc ?_
    simp only [laws_toSettingS.l0]
    refine evNeg (by omega) (evNow ?_)
    rw [List.take_of_length_le (by simp; omega)]; simp
  | succ d ih =>
    intro i h
    refine evSucc ?_
    simp only [laws_toSettingS.l0, laws_toSetting.f]
    refine evPos (by omega) (evPos (by omega) (evPut rfl (evPos (by simp; omega) ?_)))
    have e : (⟨(rd_T177 l (i : Int)).f0, (rd_T177 l (i : Int)).f1⟩ : S143) = (l.map ofSetting)[i]'(by simp; omega) := by
      simp [rd_T177, List.getD_eq_getElem?_getD, ofSetting, show i < l.length by omega]
    rw [w64succ i (by omega), Int.toNat_natCast]
    show Ev (fun k => laws_toSettingS.l0 k l (((l.map ofSetting).take i ++ List.replicate (d + 1) z143).set i ⟨(rd_T177 l (i : Int)).f0, (rd_T177 l (i : Int)).f1⟩) _) _
    rw [e, fillStep (l.map ofSetting) _ i d (by simp; omega)]
    exact ih (i + 1) (by omega)
theorem toSetting (l : List S177) (hl : l.length ≤ 1048576) : Ev (fun k => laws_toSettingS.f k l) (l.map ofSetting) := by
  unfold laws_toSettingS.f
  refine evPos (by omega) (evPos (by omega) ?_)
  have := toSetting_loop l (by omega) l.length 0 (by omega)
  simpa using this
theorem eqSetting1 (x : S143) : laws_eqSetting.f x.f0 x.f1 x.f0 x.f1 = some true := by
  unfold laws_eqSetting.f; simp
theorem eqSetting_loop (l : List S143) (hl : l.length < 4611686018427387904) : ∀ (d i : Nat), i + d = l.length → Ev (fun k => laws_eqSettingS.l0 k l l (i : Int)) true := by
  intro d
  induction d with
  | zero =>
    intro i h
    refine evSucc ?_
    simp only [laws_eqSettingS.l0]
    exact evNeg (by omega) (Ev.now _)
  | succ d ih =>
    intro i h
    refine evSucc ?_
    simp only [laws_eqSettingS.l0]
    refine evPos (by omega) (evPos (by omega) (evPos (by omega) (evPut (eqSetting1 _) (evPos rfl ?_))))
    rw [w64succ i (by omega)]
    exact ih (i + 1) (by omega)
theorem eqSetting (l : List S143) (hl : l.length < 4611686018427387904) : Ev (fun k => laws_eqSettingS.f k l l) true := by
  unfold laws_eqSettingS.f
  exact evPos rfl (eqSetting_loop l hl l.length 0 (by omega))

/-! ### which hypertext frames are valid -/
def varP (v : Int) : Bool := decide (0 ≤ v ∧ v ≤ 4611686018427387903)
theorem varI (v : Int) : impl_inVar.f v = some (varP v) := by
  unfold impl_inVar.f varP
  by_cases h : 0 ≤ v
  · rw [if_pos h]; simp [h]
  · rw [if_neg h]; simp [h]
theorem varS (v : Int) : spec_l05Var.f v = some (varP v) := by
  unfold spec_l05Var.f varP
  by_cases h : 0 ≤ v
  · rw [if_pos h]; simp [h]
  · rw [if_neg h]; simp [h]
def setV (x : S143) : Bool := varP x.f0 && varP x.f1
def setFrom : List Int → List S143 → Bool
  | _, [] => true
  | s, x :: l => setV x && !s.contains x.f0 && setFrom (x.f0 :: s) l
theorem setFrom_is (s : List Int) (l : List S143) : setFrom s l = (l.all setV && unlikeL s (l.map fun x => x.f0)) := by
  induction l generalizing s with
  | nil => rfl
  | cons x l ih =>
    simp only [setFrom, ih, List.all_cons, List.map_cons, unlikeL]
    cases setV x <;> cases s.contains x.f0 <;> simp
theorem rdSet (l : List S143) (i : Nat) (h : i < l.length) : rd_T143 l (i : Int) = l[i] := by simp [rd_T143, List.getD_eq_getElem?_getD, h]
theorem setS_in (l : List S143) (hl : l.length ≤ 1000) (i : Nat) (hi : i < l.length) (r : Bool) (hr : ((l.take i).map fun x => x.f0).contains (l[i]).f0 = false → Ev (fun k => spec_l15SetOK.l0 k l ((i + 1 : Nat) : Int)) r) (hr2 : ((l.take i).map fun x => x.f0).contains (l[i]).f0 = true → r = false) :
    ∀ d j : Nat, j + d = i → (∀ (q : Nat) (h : q < l.length), q < j → (l[q]'h).f0 ≠ (l[i]).f0) → Ev (fun k => spec_l15SetOK.l1 k l (i : Int) (j : Int)) r := by
  intro d
  induction d with
  | zero =>
    intro j hj hq
    refine evSucc ?_
    simp only [spec_l15SetOK.l1]
    refine evNeg (by omega) ?_
    rw [w64succ i (by omega)]
    refine hr ?_
    rw [Bool.eq_false_iff]
    intro hc
    rw [List.contains_iff_mem, List.mem_map] at hc
    obtain ⟨x, hx, he⟩ := hc
    obtain ⟨q, hq1, hq2⟩ := List.mem_take_iff_getElem.1 hx
    exact hq q (by omega) (by omega) (by rw [hq2]; exact he)
  | succ d ih =>
    intro j hj hq
    refine evSucc ?_
    simp only [spec_l15SetOK.l1]
    refine evPos (by omega) (evPos (by omega) (evPos (by omega) (evPos (by omega) (evPos (by omega) ?_))))
    rw [rdSet l j (by omega), rdSet l i hi]
    refine evSplit (fun he => ?_) (fun he => ?_)
    · rw [hr2 ?_]
      · exact Ev.now _
      · rw [List.contains_iff_mem, List.mem_map]
        exact ⟨l[j]'(by omega), List.mem_take_iff_getElem.2 ⟨j, by omega, rfl⟩, he⟩
    · rw [w64succ j (by omega)]
      refine ih (j + 1) (by omega) (fun q h hlt => ?_)
      by_cases e : q = j
      · subst e; exact he
      · exact hq q h (by omega)
theorem setS_loop (l : List S143) (hl : l.length ≤ 1000) : ∀ (d i : Nat), i + d = l.length → Ev (fun k => spec_l15SetOK.l0 k l (i : Int)) (setFrom ((l.take i).map fun x => x.f0).reverse (l.drop i)) := by
  intro d
  induction d with
  | zero =>
    intro i h
    refine evSucc ?_
    simp only [spec_l15SetOK.l0]
    rw [List.drop_of_length_le (by omega)]
    exact evNeg (by omega) (Ev.now _)
  | succ d ih =>
    intro i h
    have hi : i < l.length := by omega
    refine evSucc ?_
    simp only [spec_l15SetOK.l0, varS]
    refine evPos (by omega) (evPos (by omega) (evPut rfl ?_))
    rw [rdSet l i hi, List.drop_eq_getElem_cons hi, setFrom]
    have bad : ∀ q, q = false → Ev (fun k => spec_l15SetOK.j1 k l (i : Int) true) q := by
      intro q hq
      refine evSucc ?_
      simp only [spec_l15SetOK.j1]
      exact evPos (by first | rfl | trivial) (evNow hq.symm)
    refine evSplit (fun h1 => evPut rfl ?_) (fun h1 => bad _ (by simp [setV, h1]))
    cases h2 : varP (l[i]).f1
    · exact bad _ (by simp [setV, h2])
    · refine evSucc ?_
      simp only [spec_l15SetOK.j1]
      refine evNeg (by simp) ?_
      refine setS_in l hl i hi _ (fun hc => ?_) (fun hc => ?_) i 0 (by omega) (fun q h hlt => by omega)
      · refine evCast (ih (i + 1) (by omega)) ?_
        rw [List.contains_reverse, hc, List.take_succ_eq_append_getElem hi, List.map_append, List.reverse_append]
        simp only [setV, h1, h2]
        rfl
      · rw [List.contains_reverse, hc]
        simp
theorem setS (l : List S143) : Ev (fun k => spec_l15SetOK.f k l) (decide (l.length ≤ 16) && setFrom [] l) := by
  unfold spec_l15SetOK.f
  refine evSplit (fun h => ?_) (fun h => ?_)
  · exact evNow (by rw [decide_eq_false (by omega)]; rfl)
  · refine evCast (setS_loop l (by omega) l.length 0 (by omega)) ?_
    rw [decide_eq_true (by omega)]
    simp
def shapeP (k a : Int) (d : List Int) (s : List S143) : Bool :=
  if k = 4 then decide (a = 0 ∧ d.length = 0) else if k = 7 then decide (s.length = 0 ∧ d.length = 0) else if k = 15 then decide (s.length = 0 ∧ d.length ≤ 1024) else decide (a = 0 ∧ s.length = 0)
def hyperP (k a : Int) (d : List Int) (s : List S143) : Bool :=
  varP k && varP a && decide (d.length ≤ 16384) && (decide (s.length ≤ 16) && setFrom [] s) && shapeP k a d s
theorem hyperS (k a : Int) (d : List Int) (s : List S143) : Ev (fun n => spec_HyperOK.f n k a d s) (hyperP k a d s) := by
  have bad : ∀ q, q = false → Ev (fun n => spec_HyperOK.j0 n true k a d s) q := by
    intro q hq
    refine evSucc ?_
    simp only [spec_HyperOK.j0]
    exact evPos (by first | rfl | trivial) (evNow hq.symm)
  unfold spec_HyperOK.f
  simp only [varS]
  refine evPut rfl (evSplit (fun h1 => evPut rfl (evSplit (fun h2 => evSplit (fun h3 => bad _ ?_) (fun h3 => evBind (setS s) ?_)) (fun h2 => bad _ ?_))) (fun h1 => bad _ ?_))
  · simp [hyperP, show ¬ d.length ≤ 16384 by omega]
  · cases h4 : (decide (s.length ≤ 16) && setFrom [] s)
    · exact bad _ (by simp only [hyperP, h4]; simp)
    · refine evSucc ?_
      simp only [spec_HyperOK.j0]
      have e : hyperP k a d s = shapeP k a d s := by simp only [hyperP, h1, h2, h4, decide_eq_true (show d.length ≤ 16384 by omega)]; simp
      rw [e]
      unfold shapeP
      refine evNeg (by simp) (evSplit (fun h5 => ?_) (fun h5 => evSplit (fun h6 => ?_) (fun h6 => evSplit (fun h7 => ?_) (fun h7 => ?_))))
      · rw [if_pos h5]
        refine evSplit (fun h8 => evNow ?_) (fun h8 => evNow ?_)
        · rw [Bool.eq_iff_iff]; simp [h8]
        · simp [h8]
      · rw [if_neg h5, if_pos h6]
        refine evSplit (fun h8 => evNow ?_) (fun h8 => evNow ?_)
        · have h9 : s.length = 0 := by omega
          rw [Bool.eq_iff_iff]; simp [h9]
        · have h9 : ¬ s.length = 0 := by omega
          simp [h9]
      · rw [if_neg h5, if_neg h6, if_pos h7]
        refine evSplit (fun h8 => evNow ?_) (fun h8 => evNow ?_)
        · have h9 : s.length = 0 := by omega
          rw [Bool.eq_iff_iff]; simp [h9]; omega
        · have h9 : ¬ s.length = 0 := by omega
          simp [h9]
      · rw [if_neg h5, if_neg h6, if_neg h7]
        refine evSplit (fun h8 => evNow ?_) (fun h8 => evNow ?_)
        · rw [Bool.eq_iff_iff]; simp [h8]
        · simp [h8]
  · simp only [hyperP]; simp [h2]
  · simp only [hyperP]; simp [h1]
theorem hyperI_loop (s : List S143) (hl : s.length ≤ 1000) : ∀ (d i : Nat), i + d = s.length → (∀ x ∈ s.take i, setV x = true) → Ev (fun k => impl_HyperOK.l0 k ((s.take i).map fun x => x.f0) s (s.length : Int) (i : Int)) ((s.drop i).all setV && unlikeL [] (s.map fun x => x.f0)) := by
  intro d
  induction d with
  | zero =>
    intro i h hv
    refine evSucc ?_
    simp only [impl_HyperOK.l0]
    refine evNeg (by omega) ?_
    rw [List.take_of_length_le (by omega)] at hv ⊢
    rw [List.drop_of_length_le (by omega)]
    refine evPut (a := unlikeL [] (s.map fun x => x.f0)) ?_ (evNow (by simp))
    unfold impl_unlike_int.f
    rw [if_pos]
    refine ⟨by simp; omega, ?_⟩
    rw [List.all_eq_true]
    intro y hy
    obtain ⟨x, hx, rfl⟩ := List.mem_map.1 hy
    have := hv x hx
    simp only [setV, varP, Bool.and_eq_true, decide_eq_true_eq] at this
    simp [Lit.wf, IntKind.min, IntKind.max, IntKind.bits, IntKind.signed]
    omega
  | succ d ih =>
    intro i h hv
    have hi : i < s.length := by omega
    refine evSucc ?_
    simp only [impl_HyperOK.l0, varI]
    rw [rdSet s i hi, List.drop_eq_getElem_cons hi, List.all_cons]
    refine evPos (by omega) (evPos (by omega) (evPos (by omega) (evPut rfl (evSplit (fun h1 => evPut rfl (evSplit (fun h2 => evPos ?_ ?_) (fun h2 => evNow ?_))) (fun h1 => evNow ?_)))))
    · simp; omega
    · rw [w64succ i (by omega)]
      have hs : setV s[i] = true := by simp [setV, h1, h2]
      have := ih (i + 1) (by omega) (by
        intro x hx
        rw [List.take_succ_eq_append_getElem hi, List.mem_append] at hx
        rcases hx with hx | hx
        · exact hv x hx
        · rw [List.mem_singleton.1 hx]; exact hs)
      rw [List.take_succ_eq_append_getElem hi, List.map_append] at this
      refine evCast this ?_
      rw [hs]
      rfl
    · simp [setV, h2]
    · simp [setV, h1]
theorem hyperI (k a : Int) (d : List Int) (s : List S143) : Ev (fun n => impl_HyperOK.f n k a d s) (hyperP k a d s) := by
  have bad0 : ∀ q, q = false → Ev (fun n => impl_HyperOK.j0 n true k a d s) q := by
    intro q hq
    refine evSucc ?_
    simp only [impl_HyperOK.j0]
    exact evPos (by first | rfl | trivial) (evNow hq.symm)
  have bad2 : ∀ q, q = false → Ev (fun n => impl_HyperOK.j2 n true k a d s) q := by
    intro q hq
    refine evSucc ?_
    simp only [impl_HyperOK.j2]
    exact evPos (by first | rfl | trivial) (evNow hq.symm)
  have good2 : ∀ q, q = (decide (s.length ≤ 16) && setFrom [] s) → Ev (fun n => impl_HyperOK.j2 n (decide ((s.length : Int) > 16)) k a d s) q := by
    intro q hq
    subst hq
    by_cases h : s.length ≤ 16
    · refine evSucc ?_
      simp only [impl_HyperOK.j2]
      refine evNeg (by simp; omega) ?_
      refine evCast (hyperI_loop s (by omega) s.length 0 (by omega) (by simp)) ?_
      rw [decide_eq_true h, setFrom_is]
      simp
    · rw [decide_eq_true (show (s.length : Int) > 16 by omega)]
      exact bad2 _ (by simp [h])
  have j1 : ∀ x y z q, q = ((x || decide (a = 0)) && (y || decide (d.length = 0)) && (z || decide (s.length = 0)) && (decide (s.length ≤ 16) && setFrom [] s)) → Ev (fun n => impl_HyperOK.j1 n x y z k a d s) q := by
    intro x y z q hq
    subst hq
    refine evSucc ?_
    simp only [impl_HyperOK.j1]
    have hd : (d.length : Int) > 0 ↔ ¬ d.length = 0 := by omega
    have hs : (s.length : Int) > 0 ↔ ¬ s.length = 0 := by omega
    simp only [hd, hs]
    have no : ∀ p : Bool, p = false → (p && (decide (s.length ≤ 16) && setFrom [] s)) = false := fun p h => by rw [h]; rfl
    have yes : ∀ p : Bool, p = true → (p && (decide (s.length ≤ 16) && setFrom [] s)) = (decide (s.length ≤ 16) && setFrom [] s) := fun p h => by rw [h]; rfl
    generalize hT : (decide (s.length ≤ 16) && setFrom [] s) = T at good2 no yes ⊢
    clear hT hd hs
    have em : ∀ p : Prop, p = True ∨ p = False := fun p => (Classical.em p).elim (fun h => .inl (eq_true h)) (fun h => .inr (eq_false h))
    rcases em (a = 0) with ha | ha <;> rcases em (d.length = 0) with hd | hd <;> rcases em (s.length = 0) with hs | hs <;> cases x <;> cases y <;> cases z <;> simp only [ha, hd, hs, not_true_eq_false, not_false_eq_true, if_true, if_false, Bool.false_eq_true, Bool.true_or, Bool.false_or, decide_true, decide_false, Bool.and_true, Bool.true_and, Bool.and_false, Bool.false_and] <;> first | exact bad2 _ rfl | exact good2 _ rfl
  unfold impl_HyperOK.f
  simp only [varI]
  refine evPut rfl (evSplit (fun h1 => evPut rfl (evSplit (fun h2 => ?_) (fun h2 => bad0 _ ?_))) (fun h1 => bad0 _ ?_))
  · by_cases h3 : d.length ≤ 16384
    · rw [decide_eq_false (show ¬ (d.length : Int) > 16384 by omega)]
      have e : hyperP k a d s = ((decide (s.length ≤ 16) && setFrom [] s) && shapeP k a d s) := by simp only [hyperP, h1, h2, decide_eq_true h3]; simp
      rw [e]
      refine evSucc ?_
      simp only [impl_HyperOK.j0]
      unfold shapeP
      refine evNeg (by simp) (evSplit (fun h5 => j1 _ _ _ _ ?_) (fun h5 => evSplit (fun h6 => j1 _ _ _ _ ?_) (fun h6 => evSplit (fun h7 => evSplit (fun h8 => evNow ?_) (fun h8 => j1 _ _ _ _ ?_)) (fun h7 => j1 _ _ _ _ ?_))))
      · rw [if_pos h5, Bool.eq_iff_iff]; simp; grind
      · rw [if_neg h5, if_pos h6, Bool.eq_iff_iff]; simp; grind
      · rw [if_neg h5, if_neg h6, if_pos h7]; have : ¬ d.length ≤ 1024 := by omega
        simp [this]
      · rw [if_neg h5, if_neg h6, if_pos h7, Bool.eq_iff_iff]; have : d.length ≤ 1024 := by omega
        simp [this]; grind
      · rw [if_neg h5, if_neg h6, if_neg h7, Bool.eq_iff_iff]; simp; grind
    · rw [decide_eq_true (show (d.length : Int) > 16384 by omega)]
      exact bad0 _ (by simp [hyperP, h3])
  · simp only [hyperP]; simp [h2]
  · simp only [hyperP]; simp [h1]

theorem eqH (k a : Int) (d : List Int) (s : List S143) (hd : d.length < 4611686018427387904) (hs : s.length < 4611686018427387904) : Ev (fun n => laws_eqHFrame.f n k a d s k a d s) true := by
  unfold laws_eqHFrame.f
  exact evPos rfl (evPos rfl (evBind (eqB d hd) (evPos rfl (evBind (eqSetting s hs) (evPos rfl (Ev.now _))))))
theorem toH (k a : Int) (d : List Int) (s : List S177) (hd : d.length ≤ 1048576) (hs : s.length ≤ 1048576) : Ev (fun n => laws_toHFrame.f n k a d s) (k, a, d, s.map ofSetting) := by
  unfold laws_toHFrame.f
  exact evBind (toB d (by omega)) (evBind (toSetting s hs) (Ev.now _))
theorem szH (k a : Int) (d : List Int) (s : List S177) (hd : d.length ≤ 9223372036854775807) (hs : s.length ≤ 9223372036854775807) : ∃ r, laws_szHFrame.f k a d s 1048576 = some r ∧ (0 ≤ r → d.length ≤ 1048576 ∧ s.length ≤ 1048576) := by
  unfold laws_szHFrame.f laws_szByteS.f laws_szSettingS.f
  rw [w64 (x := 1048576 - (d.length : Int)) (by omega) (by omega)]
  by_cases h : 1048576 - (d.length : Int) < 0
  · rw [if_pos h]
    exact ⟨-1, rfl, by omega⟩
  · rw [if_neg h]
    simp only [Option.bind_some]
    rw [if_neg h, w64 (x := 1048576 - (d.length : Int) - (s.length : Int)) (by omega) (by omega)]
    by_cases h2 : 1048576 - (d.length : Int) - (s.length : Int) < 0
    · rw [if_pos h2]
      exact ⟨-1, rfl, by omega⟩
    · rw [if_neg h2]
      simp only [Option.bind_some]
      rw [if_neg h2]
      exact ⟨_, rfl, by omega⟩

/-! ### a number laid into bytes, the high one first -/
def digits (v : Int) : Nat → List Int
  | 0 => []
  | n + 1 => digits (v / 256) n ++ [v % 256]
theorem digits_length : ∀ (n : Nat) (v : Int), (digits v n).length = n
  | 0, _ => rfl
  | n + 1, v => by simp [digits, digits_length n]
theorem digits_top : ∀ (n : Nat) (v : Int), digits v (n + 1) = (v / 256 ^ n % 256) :: digits v n
  | 0, v => by simp [digits]
  | n + 1, v => by
    have e : digits v (n + 1 + 1) = digits (v / 256) (n + 1) ++ [v % 256] := rfl
    rw [e, digits_top n (v / 256), Int.ediv_ediv_of_nonneg (by decide), ← Int.pow_succ']
    rfl
theorem digits_byte : ∀ (n : Nat) (v : Int), ∀ x ∈ digits v n, 0 ≤ x ∧ x ≤ 255
  | 0, _, x, h => by simp [digits] at h
  | n + 1, v, x, h => by
    simp only [digits, List.mem_append, List.mem_singleton] at h
    rcases h with h | h
    · exact digits_byte n _ x h
    · omega
theorem digS : ∀ (n : Nat) (v : Int), n ≤ 1000 → 0 ≤ v → v ≤ 9223372036854775807 → Ev (fun k => spec_l01Digits.f k v (n : Int)) (digits v n) := by
  intro n
  induction n with
  | zero =>
    intro v _ _ _
    refine evSucc ?_
    simp only [spec_l01Digits.f]
    exact evPos (by omega) (Ev.now _)
  | succ n ih =>
    intro v hn h0 h1
    refine evSucc ?_
    simp only [spec_l01Digits.f]
    refine evNeg (by omega) ?_
    rw [Int.tdiv_eq_ediv_of_nonneg h0, Int.tmod_eq_emod_of_nonneg h0, w64 (x := v / 256) (by omega) (by omega), w64 (x := ((n + 1 : Nat) : Int) - 1) (by omega) (by omega), show ((n + 1 : Nat) : Int) - 1 = (n : Int) by omega]
    refine evBind (ih (v / 256) (by omega) (by omega) (by omega)) (evPos (by rw [digits_length]; omega) (evNow ?_))
    rw [Int.emod_emod]
    rfl
theorem u64N (x : Int) (h0 : 0 ≤ x) (h1 : x ≤ 9223372036854775807) : IntKind.u64.wrap x = x := by
  have : IntKind.u64.wrap x = x % 18446744073709551616 := by simp [IntKind.wrap, IntKind.bits, IntKind.signed]
  rw [this]; omega
theorem shr8 (x : Int) (n : Nat) (hn : n ≤ 7) : shr .u64 x (8 * (n : Int)) = x / 256 ^ n := by
  unfold shr
  have e : min (8 * (n : Int)).toNat IntKind.u64.bits = 8 * n := by simp only [IntKind.bits]; omega
  rw [e, Int.pow_mul]
  rfl
theorem fixI : ∀ (n : Nat) (l : List Int) (v : Int), n ≤ 8 → l.length + n ≤ 100000008 → 0 ≤ v → v ≤ 9223372036854775807 → Ev (fun k => impl_fixed.l0 k l v ((n : Int) - 1)) (l ++ digits v n) := by
  intro n
  induction n with
  | zero =>
    intro l v _ _ _ _
    refine evSucc ?_
    simp only [impl_fixed.l0]
    refine evNeg (by omega) (evNow ?_)
    simp [digits]
  | succ n ih =>
    intro l v hn hl h0 h1
    refine evSucc ?_
    simp only [impl_fixed.l0]
    rw [show ((n + 1 : Nat) : Int) - 1 = (n : Int) by omega, w64 (x := 8 * (n : Int)) (by omega) (by omega), w64 (x := (n : Int) - 1) (by omega) (by omega), u64N v h0 h1, shr8 v n (by omega)]
    refine evPos (by omega) (evPos (by omega) (evPos (by omega) ?_))
    have e : l ++ digits v (n + 1) = (l ++ [v / 256 ^ n % 256]) ++ digits v n := by rw [digits_top]; simp
    rw [e]
    exact ih _ v (by omega) (by simp; omega) h0 h1
theorem fixF (n : Nat) (l : List Int) (v : Int) (hn : n ≤ 8) (hl : l.length ≤ 1000000) (h0 : 0 ≤ v) (h1 : v ≤ 9223372036854775807) : Ev (fun k => impl_fixed.f k l v (n : Int)) (l ++ digits v n) := by
  unfold impl_fixed.f
  rw [w64 (x := (n : Int) - 1) (by omega) (by omega)]
  exact fixI n l v hn (by omega) h0 h1

theorem bitsOrComm (k : IntKind) (x y : Int) : Go.bits .or k x y = Go.bits .or k y x := by
  simp only [Go.bits]; rw [BitVec.or_comm]

/-! ### a number in its shortest form -/
def vlen (v : Int) : Nat := if v < 64 then 1 else if v < 16384 then 2 else if v < 1073741824 then 4 else 8
def vmark (n : Nat) : Int := if n = 2 then 64 else if n = 4 then 128 else if n = 8 then 192 else 0
def encV (v : Int) : List Int := (digits v (vlen v)).set 0 (rd (digits v (vlen v)) 0 + vmark (vlen v))
theorem vlen_le (v : Int) : 1 ≤ vlen v ∧ vlen v ≤ 8 := by unfold vlen; split <;> (try split) <;> (try split) <;> omega
theorem encV_length (v : Int) : (encV v).length = vlen v := by unfold encV; rw [List.length_set, digits_length]
theorem encV_le (v : Int) : (encV v).length ≤ 8 := by rw [encV_length]; exact (vlen_le v).2
theorem orMark (d m : Int) (h0 : 0 ≤ d) (h1 : d < 64) (hm : m = 0 ∨ m = 64 ∨ m = 128 ∨ m = 192) : Go.bits .or .u8 d m = d + m := by
  rw [bitsOrComm, Int.add_comm]
  exact bits_join .u8 8 (by decide) (fun n h h' => by rw [IntKind.wrap_u8]; omega) 6 m d (by omega) (by omega) (by omega) h0 (by omega) (by omega)
theorem vcase (v : Int) (h0 : 0 ≤ v) (h1 : v ≤ 4611686018427387903) : ∃ n : Nat, vlen v = n + 1 ∧ v / 256 ^ n % 256 < 64 ∧ (n = 0 ∨ n = 1 ∨ n = 3 ∨ n = 7) ∧ digits v (vlen v) = (v / 256 ^ n % 256) :: digits v n := by
  by_cases h2 : v < 64
  · exact ⟨0, by simp [vlen, h2], by simp only [Int.pow_zero]; omega, .inl rfl, by rw [show vlen v = 0 + 1 by simp [vlen, h2]]; exact digits_top 0 v⟩
  by_cases h3 : v < 16384
  · exact ⟨1, by simp [vlen, h2, h3], by simp only [Int.pow_succ, Int.pow_zero]; omega, .inr (.inl rfl), by rw [show vlen v = 1 + 1 by simp [vlen, h2, h3]]; exact digits_top 1 v⟩
  by_cases h4 : v < 1073741824
  · exact ⟨3, by simp [vlen, h2, h3, h4], by simp only [Int.pow_succ, Int.pow_zero]; omega, .inr (.inr (.inl rfl)), by rw [show vlen v = 3 + 1 by simp [vlen, h2, h3, h4]]; exact digits_top 3 v⟩
  · exact ⟨7, by simp [vlen, h2, h3, h4], by simp only [Int.pow_succ, Int.pow_zero]; omega, .inr (.inr (.inr rfl)), by rw [show vlen v = 7 + 1 by simp [vlen, h2, h3, h4]]; exact digits_top 7 v⟩
theorem vlenI (v : Int) (h0 : 0 ≤ v) (h1 : v ≤ 4611686018427387903) : impl_VarLen.f v = some ((vlen v : Nat) : Int) := by
  unfold impl_VarLen.f
  rw [varI, show varP v = true from decide_eq_true ⟨h0, h1⟩]
  simp only [Option.bind_some, if_true, vlen]
  split <;> (try split) <;> (try split) <;> rfl
theorem vlenS (v : Int) (h0 : 0 ≤ v) (h1 : v ≤ 4611686018427387903) : Ev (fun k => spec_VarLen.f k v) ((vlen v : Nat) : Int) := by
  unfold spec_VarLen.f
  refine evNeg (by omega) ?_
  rw [decide_eq_false (show ¬ v > 4611686018427387903 by omega)]
  refine evSucc ?_
  simp only [spec_VarLen.j0]
  unfold vlen
  refine evNeg (by simp) (evSplit (fun h => evNow ?_) (fun h => evSplit (fun h2 => evNow ?_) (fun h2 => evSplit (fun h3 => evNow ?_) (fun h3 => evNow ?_))))
  · rw [if_pos (by omega)]; rfl
  · rw [if_neg (by omega), if_pos (by omega)]; rfl
  · rw [if_neg (by omega), if_neg (by omega), if_pos (by omega)]; rfl
  · rw [if_neg (by omega), if_neg (by omega), if_neg (by omega)]; rfl
theorem addV (l : List Int) (v : Int) (hl : l.length ≤ 1000000) (h0 : 0 ≤ v) (h1 : v ≤ 4611686018427387903) : Ev (fun k => impl_addVar.f k l v) (l ++ encV v) := by
  obtain ⟨n, hn, hd, hc, he⟩ := vcase v h0 h1
  unfold impl_addVar.f
  refine evPut (vlenI v h0 h1) (evBind (fixF (vlen v) l v (vlen_le v).2 hl h0 (by omega)) ?_)
  have hlen := digits_length (vlen v) v
  refine evPos ⟨by rw [List.length_append, hlen]; omega, by rw [hn]; omega⟩ (evNow ?_)
  have hr : rd (l ++ digits v (vlen v)) (l.length : Int) = v / 256 ^ n % 256 := by
    rw [he]; simp [rd, List.getD_eq_getElem?_getD]
  have hm : impl_addVar.mark ((vlen v : Nat) : Int) = vmark (vlen v) := by
    rw [hn]
    rcases hc with rfl | rfl | rfl | rfl <;> decide
  have hr2 : rd (digits v (vlen v)) 0 = v / 256 ^ n % 256 := by rw [he]; rfl
  rw [hr, hm, orMark _ _ (by omega) hd (by rw [hn]; rcases hc with rfl | rfl | rfl | rfl <;> decide), encV, hr2]
  rw [List.set_append_right _ _ (Nat.le_refl _), Nat.sub_self]
theorem putV_loop (n : Nat) (x : List Int) (hx : 0 < x.length) (hn : n = 1 ∨ n = 2 ∨ n = 4 ∨ n = 8) (hd : 0 ≤ rd x 0) (hd1 : rd x 0 < 64) : Ev (fun k => spec_PutVar.l0 k (n : Int) x 0 1) (x.set 0 (rd x 0 + vmark n), 0) := by
  have stop : ∀ (m c : Int), ¬ c < (n : Int) → (0 : Int) ≤ m → m ≤ 3 → 64 * m = vmark n → Ev (fun k => spec_PutVar.l0 k (n : Int) x m c) (x.set 0 (rd x 0 + vmark n), 0) := by
    intro m c hc h0 h1 hm
    refine evSucc ?_
    simp only [spec_PutVar.l0]
    refine evNeg hc (evPos (by omega) (evNow ?_))
    rw [w64 (x := 64 * m) (by omega) (by omega), ← hm, show (rd x 0 + 64 * m % 256) % 256 = rd x 0 + 64 * m by omega]
    rfl
  have go : ∀ (m c : Int), c < (n : Int) → (0 : Int) ≤ m → m ≤ 3 → 0 ≤ c → c ≤ 100 → Ev (fun k => spec_PutVar.l0 k (n : Int) x (m + 1) (2 * c)) (x.set 0 (rd x 0 + vmark n), 0) → Ev (fun k => spec_PutVar.l0 k (n : Int) x m c) (x.set 0 (rd x 0 + vmark n), 0) := by
    intro m c hc h0 h1 h2 h3 h
    refine evSucc ?_
    simp only [spec_PutVar.l0]
    rw [w64 (x := m + 1) (by omega) (by omega), w64 (x := 2 * c) (by omega) (by omega)]
    exact evPos hc h
  rcases hn with rfl | rfl | rfl | rfl
  · exact stop 0 1 (by omega) (by omega) (by omega) (by decide)
  · exact go 0 1 (by omega) (by omega) (by omega) (by omega) (by omega) (stop 1 2 (by omega) (by omega) (by omega) (by decide))
  · exact go 0 1 (by omega) (by omega) (by omega) (by omega) (by omega) (go 1 2 (by omega) (by omega) (by omega) (by omega) (by omega) (stop 2 4 (by omega) (by omega) (by omega) (by decide)))
  · exact go 0 1 (by omega) (by omega) (by omega) (by omega) (by omega) (go 1 2 (by omega) (by omega) (by omega) (by omega) (by omega) (go 2 4 (by omega) (by omega) (by omega) (by omega) (by omega) (stop 3 8 (by omega) (by omega) (by omega) (by decide))))
theorem putV (v : Int) (h0 : 0 ≤ v) (h1 : v ≤ 4611686018427387903) : Ev (fun k => spec_PutVar.f k v) (encV v, 0) := by
  obtain ⟨n, hn, hd, hc, he⟩ := vcase v h0 h1
  have hr2 : rd (digits v (vlen v)) 0 = v / 256 ^ n % 256 := by rw [he]; rfl
  unfold spec_PutVar.f
  refine evBind (vlenS v h0 h1) (evNeg (by have := (vlen_le v).1; omega) (evBind (digS (vlen v) v (by have := (vlen_le v).2; omega) h0 (by omega)) ?_))
  exact putV_loop (vlen v) _ (by rw [digits_length]; exact (vlen_le v).1) (by rw [hn]; omega) (by rw [hr2]; omega) (by rw [hr2]; exact hd)
theorem l05N (l : List Int) (v : Int) (hl : l.length ≤ 1000000) (h0 : 0 ≤ v) (h1 : v ≤ 4611686018427387903) : Ev (fun k => spec_l05N.f k l v) (l ++ encV v) := by
  unfold spec_l05N.f
  have := encV_le v
  exact evBind (putV v h0 h1) (evPos (by simp only; omega) (Ev.now _))

/-! ### a frame's bytes -/
theorem addCounted (l p : List Int) (hl : l.length ≤ 100000) (hp : p.length ≤ 100000) : Ev (fun k => impl_addCounted.f k l p) (l ++ encV p.length ++ p) := by
  unfold impl_addCounted.f
  have := encV_le p.length
  exact evBind (addV l p.length (by omega) (by omega) (by omega)) (evPos (by simp; omega) (Ev.now _))
theorem l05Counted (l p : List Int) (hl : l.length ≤ 100000) (hp : p.length ≤ 100000) : Ev (fun k => spec_l05Counted.f k l p) (l ++ encV p.length ++ p) := by
  unfold spec_l05Counted.f
  have := encV_le p.length
  exact evBind (l05N l p.length (by omega) (by omega) (by omega)) (evPos (by simp; omega) (Ev.now _))
theorem addVars2 (l : List Int) (a b : Int) (hl : l.length ≤ 100000) (ha : varP a = true) (hb : varP b = true) : Ev (fun k => impl_addVars.f k l [a, b]) (l ++ encV a ++ encV b) := by
  have ha := of_decide_eq_true ha
  have hb := of_decide_eq_true hb
  have h1 := encV_le a
  unfold impl_addVars.f
  refine evSucc ?_
  simp only [impl_addVars.l0]
  refine evPos (by simp) (evPos (by omega) (evPos (by simp) (evBind (addV l a (by omega) ha.1 ha.2) ?_)))
  rw [w64 (x := 0 + 1) (by omega) (by omega)]
  refine evSucc ?_
  simp only [impl_addVars.l0]
  refine evPos (by simp) (evPos (by omega) (evPos (by simp) (evBind (addV _ b (by simp; omega) hb.1 hb.2) ?_)))
  rw [w64 (x := 0 + 1 + 1) (by omega) (by omega)]
  refine evSucc ?_
  simp only [impl_addVars.l0]
  exact evNeg (by simp) (Ev.now _)
def setB : List S143 → List Int
  | [] => []
  | x :: l => encV x.f0 ++ encV x.f1 ++ setB l
theorem setB_len (s : List S143) : (setB s).length ≤ 16 * s.length := by
  induction s with
  | nil => simp [setB]
  | cons x l ih => have h1 := encV_le x.f0; have h2 := encV_le x.f1; simp only [setB, List.length_append, List.length_cons]; omega
theorem setB_snoc (s : List S143) (x : S143) : setB (s ++ [x]) = setB s ++ encV x.f0 ++ encV x.f1 := by
  induction s with
  | nil => simp [setB]
  | cons y l ih => simp [setB, ih]
def payP (k a : Int) (d : List Int) (s : List S143) : List Int := if k = 4 then setB s else if k = 7 then encV a else if k = 15 then encV a ++ d else d
def bytesP (k a : Int) (d : List Int) (s : List S143) : List Int := encV k ++ encV (payP k a d s).length ++ payP k a d s
theorem payP_len (k a : Int) (d : List Int) (s : List S143) (hd : d.length ≤ 16384) (hs : s.length ≤ 16) : (payP k a d s).length ≤ 17000 := by
  have h1 := setB_len s
  have h2 := encV_le a
  unfold payP
  split
  · omega
  · split
    · omega
    · split
      · rw [List.length_append]; omega
      · omega
theorem payS_loop (k a : Int) (d : List Int) (s : List S143) (hs : s.length ≤ 16) (hv : ∀ x ∈ s, setV x = true) : ∀ (q i : Nat), i + q = s.length → Ev (fun n => spec_l15Payload.l0 n (setB (s.take i)) (i : Int) k a d s) (setB s) := by
  intro q
  induction q with
  | zero =>
    intro i h
    refine evSucc ?_
    simp only [spec_l15Payload.l0]
    refine evNeg (by omega) (evNow ?_)
    rw [List.take_of_length_le (by omega)]
  | succ q ih =>
    intro i h
    have hi : i < s.length := by omega
    have hx := hv _ (List.getElem_mem hi)
    unfold setV at hx
    rw [Bool.and_eq_true] at hx
    have h0 := of_decide_eq_true hx.1
    have h1 := of_decide_eq_true hx.2
    have hb := setB_len (s.take i)
    rw [List.length_take] at hb
    have he := encV_le (s[i]).f0
    refine evSucc ?_
    simp only [spec_l15Payload.l0]
    rw [rdSet s i hi, w64succ i (by omega)]
    refine evPos (by omega) (evPos (by omega) (evBind (l05N _ _ (by omega) h0.1 h0.2) (evBind (l05N _ _ (by rw [List.length_append]; omega) h1.1 h1.2) ?_)))
    rw [← setB_snoc, ← List.take_succ_eq_append_getElem hi]
    exact ih (i + 1) (by omega)
theorem payS (k a : Int) (d : List Int) (s : List S143) (ha : varP a = true) (hd : d.length ≤ 16384) (hs : s.length ≤ 16) (hv : ∀ x ∈ s, setV x = true) : Ev (fun n => spec_l15Payload.f n k a d s) (payP k a d s) := by
  have ha := of_decide_eq_true ha
  have he := encV_le a
  unfold spec_l15Payload.f payP
  refine evPut rfl (evSplit (fun h1 => ?_) (fun h1 => evSplit (fun h2 => ?_) (fun h2 => evSplit (fun h3 => ?_) (fun h3 => ?_))))
  · rw [if_pos h1]
    simpa [setB] using payS_loop k a d s hs hv s.length 0 (by omega)
  · rw [if_neg h1, if_pos h2]
    exact evBind (l05N [] a (by simp) ha.1 ha.2) (evNow (by simp))
  · rw [if_neg h1, if_neg h2, if_pos h3]
    exact evBind (l05N [] a (by simp) ha.1 ha.2) (evPos (by simp; omega) (evNow (by simp)))
  · rw [if_neg h1, if_neg h2, if_neg h3]
    exact evPos (by simp; omega) (evNow (by simp))
theorem payI_loop (k a : Int) (d : List Int) (s : List S143) (hk : varP k = true) (hs : s.length ≤ 16) (hv : ∀ x ∈ s, setV x = true) : ∀ (q i : Nat), i + q = s.length → Ev (fun n => impl_hyperBytes.l0 n (setB (s.take i)) s (s.length : Int) (i : Int) k a d s) (encV k ++ encV (setB s).length ++ setB s) := by
  have hk := of_decide_eq_true hk
  intro q
  induction q with
  | zero =>
    intro i h
    have hb := setB_len s
    have he := encV_le k
    refine evSucc ?_
    simp only [impl_hyperBytes.l0]
    rw [List.take_of_length_le (by omega)]
    refine evNeg (by omega) (evBind (addV [] k (by simp) hk.1 hk.2) (evBind (addCounted _ (setB s) (by simp; omega) (by omega)) (evNow (by simp))))
  | succ q ih =>
    intro i h
    have hi : i < s.length := by omega
    have hx := hv _ (List.getElem_mem hi)
    unfold setV at hx
    rw [Bool.and_eq_true] at hx
    have hb := setB_len (s.take i)
    rw [List.length_take] at hb
    refine evSucc ?_
    simp only [impl_hyperBytes.l0]
    rw [rdSet s i hi, w64succ i (by omega)]
    refine evPos (by omega) (evPos (by omega) (evPos (by omega) (evBind (addVars2 _ _ _ (by omega) hx.1 hx.2) ?_)))
    rw [← setB_snoc, ← List.take_succ_eq_append_getElem hi]
    exact ih (i + 1) (by omega)
theorem bytesI (k a : Int) (d : List Int) (s : List S143) (hk : varP k = true) (ha : varP a = true) (hd : d.length ≤ 16384) (hs : s.length ≤ 16) (hv : ∀ x ∈ s, setV x = true) : Ev (fun n => impl_hyperBytes.f n k a d s) (bytesP k a d s) := by
  have hk2 := of_decide_eq_true hk
  have ha := of_decide_eq_true ha
  have he := encV_le k
  have hf := encV_le a
  unfold impl_hyperBytes.f bytesP payP
  refine evPut rfl (evSplit (fun h1 => ?_) (fun h1 => evSplit (fun h2 => ?_) (fun h2 => evSplit (fun h3 => ?_) (fun h3 => ?_))))
  · rw [if_pos h1]
    simpa [setB] using payI_loop k a d s hk hs hv s.length 0 (by omega)
  · rw [if_neg h1, if_pos h2]
    exact evBind (addV [] a (by simp) ha.1 ha.2) (evBind (addV [] k (by simp) hk2.1 hk2.2) (evBind (addCounted _ _ (by simp; omega) (by simp; omega)) (evNow (by simp))))
  · rw [if_neg h1, if_neg h2, if_pos h3]
    exact evBind (addV [] a (by simp) ha.1 ha.2) (evPos (by simp; omega) (evBind (addV [] k (by simp) hk2.1 hk2.2) (evBind (addCounted _ _ (by simp; omega) (by simp; omega)) (evNow (by simp)))))
  · rw [if_neg h1, if_neg h2, if_neg h3]
    exact evBind (addV [] k (by simp) hk2.1 hk2.2) (evBind (addCounted _ _ (by simp; omega) (by omega)) (evNow (by simp)))
theorem hyperP_parts {k a : Int} {d : List Int} {s : List S143} (h : hyperP k a d s = true) : varP k = true ∧ varP a = true ∧ d.length ≤ 16384 ∧ s.length ≤ 16 ∧ ∀ x ∈ s, setV x = true := by
  unfold hyperP at h
  rw [setFrom_is] at h
  simp only [Bool.and_eq_true, decide_eq_true_eq, List.all_eq_true] at h
  exact ⟨h.1.1.1.1, h.1.1.1.2, h.1.1.2, h.1.2.1, h.1.2.2.1⟩
def outP (k a : Int) (d : List Int) (s : List S143) : List Int × Int := if hyperP k a d s = true then (bytesP k a d s, 0) else ([], 1)
theorem outP_len (k a : Int) (d : List Int) (s : List S143) : (outP k a d s).1.length ≤ 17016 := by
  unfold outP
  split
  · rename_i h
    obtain ⟨_, _, hd, hs, _⟩ := hyperP_parts h
    have h1 := payP_len k a d s hd hs
    have h2 := encV_le k
    have h3 := encV_le (payP k a d s).length
    simp only [bytesP, List.length_append]
    omega
  · simp
theorem outS (k a : Int) (d : List Int) (s : List S143) : Ev (fun n => spec_HyperBytes.f n k a d s) (outP k a d s) := by
  unfold spec_HyperBytes.f outP
  refine evBind (hyperS k a d s) (evSplit (fun h => ?_) (fun h => ?_))
  · obtain ⟨hk, ha, hd, hs, hv⟩ := hyperP_parts h
    have hk2 := of_decide_eq_true hk
    have he := encV_le k
    have hp := payP_len k a d s hd hs
    rw [if_pos h]
    refine evBind (l05N [] k (by simp) hk2.1 hk2.2) (evBind (payS k a d s ha hd hs hv) (evBind (l05Counted _ _ (by simp; omega) (by omega)) (evNow (by simp [bytesP]))))
  · rw [if_neg h]; exact Ev.now _
theorem outI (k a : Int) (d : List Int) (s : List S143) : Ev (fun n => impl_HyperBytes.f n k a d s) (outP k a d s) := by
  unfold impl_HyperBytes.f outP
  refine evBind (hyperI k a d s) (evSplit (fun h => ?_) (fun h => ?_))
  · obtain ⟨hk, ha, hd, hs, hv⟩ := hyperP_parts h
    rw [if_pos h]
    exact evBind (bytesI k a d s hk ha hd hs hv) (Ev.now _)
  · rw [if_neg h]; exact Ev.now _
theorem markS_loop (n : Nat) (m : Int) (h0 : 0 ≤ m) (hm : m + 2 * n < 1000000000) : ∀ (q i : Nat) (l : List S143), i + q = n → l.length = n → ∃ l', Ev (fun k => laws_markSettingS.l0 k l (m + 2 * i) (i : Int)) (m + 2 * n, l') := by
  intro q
  induction q with
  | zero =>
    intro i l h hl
    refine ⟨l, evSucc ?_⟩
    simp only [laws_markSettingS.l0]
    refine evNeg (by omega) (evNow ?_)
    have : i = n := by omega
    rw [this]
  | succ q ih =>
    intro i l h hl
    obtain ⟨l', hl'⟩ := ih (i + 1) ((l.set i ⟨m + 2 * i, (rd_T143 l (i : Int)).f1⟩).set i ⟨(rd_T143 (l.set i ⟨m + 2 * i, (rd_T143 l (i : Int)).f1⟩) (i : Int)).f0, m + 2 * i + 1⟩) (by omega) (by simp [hl])
    refine ⟨l', evSucc ?_⟩
    simp only [laws_markSettingS.l0]
    rw [w64 (x := m + 2 * (i : Int) + 1) (by omega) (by omega), w64 (x := m + 2 * (i : Int) + 1 + 1) (by omega) (by omega), w64succ i (by omega), Int.toNat_natCast]
    have e2 : m + 2 * (i : Int) + 1 + 1 = m + 2 * ((i + 1 : Nat) : Int) := by omega
    rw [e2]
    exact evPos (by omega) (evPos (by omega) (evPut rfl hl'))
theorem markH (k a : Int) (d : List Int) (s : List S143) (hd : d.length ≤ 1048576) (hs : s.length ≤ 1048576) : ∃ q, Ev (fun n => laws_markHFrame.f n k a d s 1) q ∧ 0 ≤ q.1 := by
  obtain ⟨m1, _, _, r1⟩ := markB d 1 (by omega) (by omega)
  obtain ⟨m2, r2⟩ := markS_loop s.length (1 + d.length) (by omega) (by omega) s.length 0 s (by omega) rfl
  refine ⟨(1 + (d.length : Int) + 2 * (s.length : Int), m1, m2), ?_, by simp only; omega⟩
  unfold laws_markHFrame.f laws_markSettingS.f
  exact evBind r1 (evBind (by simpa using r2) (Ev.now _))

theorem FnExactHyperBytes : laws_FnExactHyperBytes.Stmt := by
  intro x hx
  obtain ⟨_, _, ⟨h2, _⟩, ⟨h3, _⟩⟩ := hx
  unfold maxLen at h2 h3
  refine evEnds ?_
  unfold laws_FnExactHyperBytes.f
  obtain ⟨r, hr, hb⟩ := szH x.f0 x.f1 x.f2 x.f3 (by omega) (by omega)
  refine evPut hr (evSplit (fun _ => Ev.now _) (fun h => ?_))
  obtain ⟨b2, b3⟩ := hb (by omega)
  have t := toH x.f0 x.f1 x.f2 x.f3 b2 b3
  have hs : (x.f3.map ofSetting).length ≤ 1048576 := by simpa using b3
  have eH := eqH x.f0 x.f1 x.f2 (x.f3.map ofSetting) (by omega) (by omega)
  have gS := outS x.f0 x.f1 x.f2 (x.f3.map ofSetting)
  have gI := outI x.f0 x.f1 x.f2 (x.f3.map ofSetting)
  have gl := outP_len x.f0 x.f1 x.f2 (x.f3.map ofSetting)
  obtain ⟨q, hq, hq0⟩ := markH x.f0 x.f1 x.f2 (x.f3.map ofSetting) b2 hs
  generalize outP x.f0 x.f1 x.f2 (x.f3.map ofSetting) = g at gS gI gl
  obtain ⟨l', q1, q2, q3⟩ := markB g.1 1 (by omega) (by omega)
  have h4 := heldB 1 l' (by omega) (by omega) (by rw [q1]; exact q2)
  have eB := eqB g.1 (by omega)
  refine evBind t (evBind gS (evBind t (evBind gI (evBind eB (evPos rfl (evSucc ?_))))))
  simp only [laws_FnExactHyperBytes.j0]
  refine evNeg (by simp) (evBind t (evBind eH (evPos rfl (evBind hq (evNeg (by omega) (evBind eB (evPos rfl (evSucc ?_))))))))
  simp only [laws_FnExactHyperBytes.j1]
  refine evNeg (by simp) (evBind q3 (evBind h4 (evNeg (by omega) (evPos (by rw [q1]) (evBind t (evBind gI (evBind eB (evPos rfl (evSucc ?_)))))))))
  simp only [laws_FnExactHyperBytes.j2]
  exact evNeg (by simp) (evBind h4 (evNeg (by omega) (evPos (by rw [q1]) (Ev.now _))))

end Go.Proofs.Ytolpikjbdfpdcaa.Pure
