/- The program's HyperOK answers what the reference's answers, for every frame; no condition. -/
import Derived.Test.YtjhcphcjpndciaaPFnExactHyperOKx0
import Derived.Test.YtjhcphcjpndciaaPFnExactHyperOKx1
import Derived.Test.YtjhcphcjpndciaaPFnExactHyperOKx2
import Derived.Test.YtjhcphcjpndciaaPFnExactHyperOKx3
import Derived.Test.YtjhcphcjpndciaaPFnExactHyperOKx4
import Derived.Test.YtjhcphcjpndciaaPFnExactHyperOKx5
import Derived.Test.YtjhcphcjpndciaaStmtFnExactHyperOK
import Derived.Laws.BitsLemmas
set_option linter.unusedVariables false
set_option linter.unusedSimpArgs false
set_option maxRecDepth 4000
namespace Go.Proofs.Ytjhcphcjpndciaa.Pure
open Go.RowKit Go.Proofs.Ytjhcphcjpndciaa.PFnExactHyperOK Go.Proofs.YtjhcphcjpndciaaW.PrintWords Go.Proofs.YtjhcphcjpndciaaW.PrintLast Go.Proofs.YtjhcphcjpndciaaW.PrintMore

/-! ### tools: what a printed function comes to -/
theorem evSucc {α : Type} {g : Nat → Option α} {r : α} (h : Ev (fun k => g (k + 1)) r) : Ev g r := Ev.step (fun _ => rfl) h
theorem evPos {α : Type} {c : Prop} {dc : Decidable c} {a b : Nat → Option α} {r : α} (h : c) (e : Ev a r) : Ev (fun k => if c then a k else b k) r :=
  Ev.congr (fun _ => if_pos h) e
theorem evNeg {α : Type} {c : Prop} {dc : Decidable c} {a b : Nat → Option α} {r : α} (h : ¬ c) (e : Ev b r) : Ev (fun k => if c then a k else b k) r :=
  Ev.congr (fun _ => if_neg h) e
theorem evSplit {α : Type} {c : Prop} {dc : Decidable c} {a b : Nat → Option α} {r : α} (h : c → Ev a r) (h' : ¬ c → Ev b r) : Ev (fun k => if c then a k else b k) r := by
  by_cases hc : c
  · exact evPos hc (h hc)
  · exact evNeg hc (h' hc)
theorem evBind {α β : Type} {g : Nat → Option α} {f : Nat → α → Option β} {a : α} {r : β} (h : Ev g a) (k : Ev (fun n => f n a) r) : Ev (fun n => (g n).bind (f n)) r := Ev.bind h k
theorem evPut {α β : Type} {o : Option α} {f : Nat → α → Option β} {a : α} {r : β} (h : o = some a) (k : Ev (fun n => f n a) r) : Ev (fun n => o.bind (f n)) r :=
  Ev.congr (fun _ => by rw [h]; rfl) k
theorem evNow {α : Type} {r r' : α} (h : r = r') : Ev (fun _ => some r) r' := h ▸ Ev.now r
theorem evOf {α : Type} {o : Option α} {r : α} (h : o = some r) : Ev (fun _ => o) r := ⟨0, fun _ _ => h⟩
theorem evEnds {α : Type} {g : Nat → Option α} {r : α} (h : Ev g r) : ∃ k, g k = some r := Ev.rounds h
theorem w64 {x : Int} (h : -9223372036854775808 ≤ x) (h' : x ≤ 9223372036854775807) : wrap64 x = x := by unfold wrap64; omega
theorem w64succ (i : Nat) (h : i < 4611686018427387904) : wrap64 ((i : Int) + 1) = ((i + 1 : Nat) : Int) := by unfold wrap64; omega
theorem wfI {x : Int} (h : (Lit.int .i64 x).wf = true) : -9223372036854775808 ≤ x ∧ x ≤ 9223372036854775807 := by
  simp only [Lit.wf, IntKind.min, IntKind.max, IntKind.bits, IntKind.signed, Bool.and_eq_true, decide_eq_true_eq] at h
  simpa using h
theorem wfB {x : Int} (h : (Lit.int .u8 x).wf = true) : 0 ≤ x ∧ x ≤ 255 := by
  simp only [Lit.wf, IntKind.min, IntKind.max, IntKind.bits, IntKind.signed, Bool.and_eq_true, decide_eq_true_eq] at h
  simpa using h
theorem rdN (l : List Int) (i : Nat) (h : i < l.length) : rd l (i : Int) = l[i] := by simp [rd, List.getD_eq_getElem?_getD, h]
theorem fillStep {α : Type} (l : List α) (z : α) (i d : Nat) (h : i + (d + 1) = l.length) : (l.take i ++ List.replicate (d + 1) z).set i (l[i]'(by omega)) = l.take (i + 1) ++ List.replicate d z := by
  rw [List.set_append_right _ _ (by simp; omega), List.take_succ_eq_append_getElem (show i < l.length by omega), List.append_assoc]
  congr 1
  have e : i - (l.take i).length = 0 := by simp; omega
  rw [e]
  rfl

/-! ### the laws' own helpers on bytes -/
theorem eqB_loop (l : List Int) (hl : l.length < 4611686018427387904) : ∀ (d i : Nat), i + d = l.length → Ev (fun k => laws_eqByteS.l0 k l l (i : Int)) true := by
  intro d
  induction d with
  | zero =>
    intro i h
    refine evSucc ?_
    simp only [laws_eqByteS.l0]
    exact evNeg (by omega) (Ev.now _)
  | succ d ih =>
    intro i h
    refine evSucc ?_
    simp only [laws_eqByteS.l0]
    refine evPos (by omega) (evPos (by omega) (evPos (by omega) (evPos (by first | rfl | trivial) ?_)))
    rw [w64succ i (by omega)]
    exact ih (i + 1) (by omega)
theorem eqB (l : List Int) (hl : l.length < 4611686018427387904) : Ev (fun k => laws_eqByteS.f k l l) true := by
  unfold laws_eqByteS.f
  exact evPos rfl (eqB_loop l hl l.length 0 (by omega))

theorem toB_loop (l : List Int) (hl : l.length < 4611686018427387904) : ∀ (d i : Nat), i + d = l.length → Ev (fun k => laws_toByteS.l0 k l (l.take i ++ List.replicate d 0) (i : Int)) l := by
  intro d
  induction d with
  | zero =>
    intro i h
    refine evSucc ?_
    simp only [laws_toByteS.l0]
    refine evNeg (by omega) (evNow ?_)
    simp [List.take_of_length_le (show l.length ≤ i by omega)]
  | succ d ih =>
    intro i h
    refine evSucc ?_
    simp only [laws_toByteS.l0]
    refine evPos (by omega) (evPos (by omega) (evPos (by simp; omega) ?_))
    rw [w64succ i (by omega), rdN l i (by omega), Int.toNat_natCast, fillStep l 0 i d h]
    exact ih (i + 1) (by omega)
theorem toB (l : List Int) (hl : l.length ≤ 140737488351232) : Ev (fun k => laws_toByteS.f k l) l := by
  unfold laws_toByteS.f
  refine evPos (by omega) (evPos (by omega) ?_)
  have := toB_loop l (by omega) l.length 0 (by omega)
  simpa using this

/-! ### slices of Setting: the copy, the comparison -/
def ofSetting (x : S190) : S127 := ⟨x.f0, x.f1⟩
theorem toSetting_loop (l : List S190) (hl : l.length < 4611686018427387904) : ∀ (d i : Nat), i + d = l.length → Ev (fun k => laws_toSettingS.l0 k l ((l.map ofSetting).take i ++ List.replicate d z127) (i : Int)) (l.map ofSetting) := by
  intro d
  induction d with
  | zero =>
    intro i h
    refine evSucc ?_
    simp only [laws_toSettingS.l0]
    refine evNeg (by omega) (evNow ?_)
    rw [List.take_of_length_le (by simp; omega)]; simp
  | succ d ih =>
    intro i h
    refine evSucc ?_
    simp only [laws_toSettingS.l0, laws_toSetting.f]
    refine evPos (by omega) (evPos (by omega) (evPut rfl (evPos (by simp; omega) ?_)))
    have e : (⟨(rd_T190 l (i : Int)).f0, (rd_T190 l (i : Int)).f1⟩ : S127) = (l.map ofSetting)[i]'(by simp; omega) := by
      simp [rd_T190, List.getD_eq_getElem?_getD, ofSetting, show i < l.length by omega]
    rw [w64succ i (by omega), Int.toNat_natCast]
    show Ev (fun k => laws_toSettingS.l0 k l (((l.map ofSetting).take i ++ List.replicate (d + 1) z127).set i ⟨(rd_T190 l (i : Int)).f0, (rd_T190 l (i : Int)).f1⟩) _) _
    rw [e, fillStep (l.map ofSetting) _ i d (by simp; omega)]
    exact ih (i + 1) (by omega)
theorem toSetting (l : List S190) (hl : l.length ≤ 1048576) : Ev (fun k => laws_toSettingS.f k l) (l.map ofSetting) := by
  unfold laws_toSettingS.f
  refine evPos (by omega) (evPos (by omega) ?_)
  have := toSetting_loop l (by omega) l.length 0 (by omega)
  simpa using this
theorem eqSetting1 (x : S127) : laws_eqSetting.f x.f0 x.f1 x.f0 x.f1 = some true := by
  unfold laws_eqSetting.f; simp
theorem eqSetting_loop (l : List S127) (hl : l.length < 4611686018427387904) : ∀ (d i : Nat), i + d = l.length → Ev (fun k => laws_eqSettingS.l0 k l l (i : Int)) true := by
  intro d
  induction d with
  | zero =>
    intro i h
    refine evSucc ?_
    simp only [laws_eqSettingS.l0]
    exact evNeg (by omega) (Ev.now _)
  | succ d ih =>
    intro i h
    refine evSucc ?_
    simp only [laws_eqSettingS.l0]
    refine evPos (by omega) (evPos (by omega) (evPos (by omega) (evPut (eqSetting1 _) (evPos rfl ?_))))
    rw [w64succ i (by omega)]
    exact ih (i + 1) (by omega)
theorem eqSetting (l : List S127) (hl : l.length < 4611686018427387904) : Ev (fun k => laws_eqSettingS.f k l l) true := by
  unfold laws_eqSettingS.f
  exact evPos rfl (eqSetting_loop l hl l.length 0 (by omega))

/-! ### which hypertext frames are valid -/
theorem evCast {α : Type} {g : Nat → Option α} {r r' : α} (h : Ev g r') (e : r' = r) : Ev g r := e ▸ h
def varP (v : Int) : Bool := decide (0 ≤ v ∧ v ≤ 4611686018427387903)
theorem varI (v : Int) : impl_inVar.f v = some (varP v) := by
  unfold impl_inVar.f varP
  by_cases h : 0 ≤ v
  · rw [if_pos h]; simp [h]
  · rw [if_neg h]; simp [h]
theorem varS (v : Int) : spec_l05Var.f v = some (varP v) := by
  unfold spec_l05Var.f varP
  by_cases h : 0 ≤ v
  · rw [if_pos h]; simp [h]
  · rw [if_neg h]; simp [h]
def setV (x : S127) : Bool := varP x.f0 && varP x.f1
def setFrom : List Int → List S127 → Bool
  | _, [] => true
  | s, x :: l => setV x && !s.contains x.f0 && setFrom (x.f0 :: s) l
theorem setFrom_is (s : List Int) (l : List S127) : setFrom s l = (l.all setV && unlikeL s (l.map fun x => x.f0)) := by
  induction l generalizing s with
  | nil => rfl
  | cons x l ih =>
    simp only [setFrom, ih, List.all_cons, List.map_cons, unlikeL]
    cases setV x <;> cases s.contains x.f0 <;> simp
theorem rdSet (l : List S127) (i : Nat) (h : i < l.length) : rd_T127 l (i : Int) = l[i] := by simp [rd_T127, List.getD_eq_getElem?_getD, h]
theorem setS_in (l : List S127) (hl : l.length ≤ 1000) (i : Nat) (hi : i < l.length) (r : Bool) (hr : ((l.take i).map fun x => x.f0).contains (l[i]).f0 = false → Ev (fun k => spec_l15SetOK.l0 k l ((i + 1 : Nat) : Int)) r) (hr2 : ((l.take i).map fun x => x.f0).contains (l[i]).f0 = true → r = false) :
    ∀ d j : Nat, j + d = i → (∀ (q : Nat) (h : q < l.length), q < j → (l[q]'h).f0 ≠ (l[i]).f0) → Ev (fun k => spec_l15SetOK.l1 k l (i : Int) (j : Int)) r := by
  intro d
  induction d with
  | zero =>
    intro j hj hq
    refine evSucc ?_
    simp only [spec_l15SetOK.l1]
    refine evNeg (by omega) ?_
    rw [w64succ i (by omega)]
    refine hr ?_
    rw [Bool.eq_false_iff]
    intro hc
    rw [List.contains_iff_mem, List.mem_map] at hc
    obtain ⟨x, hx, he⟩ := hc
    obtain ⟨q, hq1, hq2⟩ := List.mem_take_iff_getElem.1 hx
    exact hq q (by omega) (by omega) (by rw [hq2]; exact he)
  | succ d ih =>
    intro j hj hq
    refine evSucc ?_
    simp only [spec_l15SetOK.l1]
    refine evPos (by omega) (evPos (by omega) (evPos (by omega) (evPos (by omega) (evPos (by omega) ?_))))
    rw [rdSet l j (by omega), rdSet l i hi]
    refine evSplit (fun he => ?_) (fun he => ?_)
    · rw [hr2 ?_]
      · exact Ev.now _
      · rw [List.contains_iff_mem, List.mem_map]
        exact ⟨l[j]'(by omega), List.mem_take_iff_getElem.2 ⟨j, by omega, rfl⟩, he⟩
    · rw [w64succ j (by omega)]
      refine ih (j + 1) (by omega) (fun q h hlt => ?_)
      by_cases e : q = j
      · subst e; exact he
      · exact hq q h (by omega)
theorem setS_loop (l : List S127) (hl : l.length ≤ 1000) : ∀ (d i : Nat), i + d = l.length → Ev (fun k => spec_l15SetOK.l0 k l (i : Int)) (setFrom ((l.take i).map fun x => x.f0).reverse (l.drop i)) := by
  intro d
  induction d with
  | zero =>
    intro i h
    refine evSucc ?_
    simp only [spec_l15SetOK.l0]
    rw [List.drop_of_length_le (by omega)]
    exact evNeg (by omega) (Ev.now _)
  | succ d ih =>
    intro i h
    have hi : i < l.length := by omega
    refine evSucc ?_
    simp only [spec_l15SetOK.l0, varS]
    refine evPos (by omega) (evPos (by omega) (evPut rfl ?_))
    rw [rdSet l i hi, List.drop_eq_getElem_cons hi, setFrom]
    have bad : ∀ q, q = false → Ev (fun k => spec_l15SetOK.j1 k l (i : Int) true) q := by
      intro q hq
      refine evSucc ?_
      simp only [spec_l15SetOK.j1]
      exact evPos (by first | rfl | trivial) (evNow hq.symm)
    refine evSplit (fun h1 => evPut rfl ?_) (fun h1 => bad _ (by simp [setV, h1]))
    cases h2 : varP (l[i]).f1
    · exact bad _ (by simp [setV, h2])
    · refine evSucc ?_
      simp only [spec_l15SetOK.j1]
      refine evNeg (by simp) ?_
      refine setS_in l hl i hi _ (fun hc => ?_) (fun hc => ?_) i 0 (by omega) (fun q h hlt => by omega)
      · refine evCast (ih (i + 1) (by omega)) ?_
        rw [List.contains_reverse, hc, List.take_succ_eq_append_getElem hi, List.map_append, List.reverse_append]
        simp only [setV, h1, h2]
        rfl
      · rw [List.contains_reverse, hc]
        simp
theorem setS (l : List S127) : Ev (fun k => spec_l15SetOK.f k l) (decide (l.length ≤ 16) && setFrom [] l) := by
  unfold spec_l15SetOK.f
  refine evSplit (fun h => ?_) (fun h => ?_)
  · exact evNow (by rw [decide_eq_false (by omega)]; rfl)
  · refine evCast (setS_loop l (by omega) l.length 0 (by omega)) ?_
    rw [decide_eq_true (by omega)]
    simp
def shapeP (k a : Int) (d : List Int) (s : List S127) : Bool :=
  if k = 4 then decide (a = 0 ∧ d.length = 0) else if k = 7 then decide (s.length = 0 ∧ d.length = 0) else if k = 15 then decide (s.length = 0 ∧ d.length ≤ 1024) else decide (a = 0 ∧ s.length = 0)
def hyperP (k a : Int) (d : List Int) (s : List S127) : Bool :=
  varP k && varP a && decide (d.length ≤ 16384) && (decide (s.length ≤ 16) && setFrom [] s) && shapeP k a d s
theorem hyperS (k a : Int) (d : List Int) (s : List S127) : Ev (fun n => spec_HyperOK.f n k a d s) (hyperP k a d s) := by
  have bad : ∀ q, q = false → Ev (fun n => spec_HyperOK.j0 n true k a d s) q := by
    intro q hq
    refine evSucc ?_
    simp only [spec_HyperOK.j0]
    exact evPos (by first | rfl | trivial) (evNow hq.symm)
  unfold spec_HyperOK.f
  simp only [varS]
  refine evPut rfl (evSplit (fun h1 => evPut rfl (evSplit (fun h2 => evSplit (fun h3 => bad _ ?_) (fun h3 => evBind (setS s) ?_)) (fun h2 => bad _ ?_))) (fun h1 => bad _ ?_))
  · simp [hyperP, show ¬ d.length ≤ 16384 by omega]
  · cases h4 : (decide (s.length ≤ 16) && setFrom [] s)
    · exact bad _ (by simp only [hyperP, h4]; simp)
    · refine evSucc ?_
      simp only [spec_HyperOK.j0]
      have e : hyperP k a d s = shapeP k a d s := by simp only [hyperP, h1, h2, h4, decide_eq_true (show d.length ≤ 16384 by omega)]; simp
      rw [e]
      unfold shapeP
      refine evNeg (by simp) (evSplit (fun h5 => ?_) (fun h5 => evSplit (fun h6 => ?_) (fun h6 => evSplit (fun h7 => ?_) (fun h7 => ?_))))
      · rw [if_pos h5]
        refine evSplit (fun h8 => evNow ?_) (fun h8 => evNow ?_)
        · rw [Bool.eq_iff_iff]; simp [h8]
        · simp [h8]
      · rw [if_neg h5, if_pos h6]
        refine evSplit (fun h8 => evNow ?_) (fun h8 => evNow ?_)
        · have h9 : s.length = 0 := by omega
          rw [Bool.eq_iff_iff]; simp [h9]
        · have h9 : ¬ s.length = 0 := by omega
          simp [h9]
      · rw [if_neg h5, if_neg h6, if_pos h7]
        refine evSplit (fun h8 => evNow ?_) (fun h8 => evNow ?_)
        · have h9 : s.length = 0 := by omega
          rw [Bool.eq_iff_iff]; simp [h9]; omega
        · have h9 : ¬ s.length = 0 := by omega
          simp [h9]
      · rw [if_neg h5, if_neg h6, if_neg h7]
        refine evSplit (fun h8 => evNow ?_) (fun h8 => evNow ?_)
        · rw [Bool.eq_iff_iff]; simp [h8]
        · simp [h8]
  · simp only [hyperP]; simp [h2]
  · simp only [hyperP]; simp [h1]
theorem hyperI_loop (s : List S127) (hl : s.length ≤ 1000) : ∀ (d i : Nat), i + d = s.length → (∀ x ∈ s.take i, setV x = true) → Ev (fun k => impl_HyperOK.l0 k ((s.take i).map fun x => x.f0) s (s.length : Int) (i : Int)) ((s.drop i).all setV && unlikeL [] (s.map fun x => x.f0)) := by
  intro d
  induction d with
  | zero =>
    intro i h hv
    refine evSucc ?_
    simp only [impl_HyperOK.l0]
    refine evNeg (by omega) ?_
    rw [List.take_of_length_le (by omega)] at hv ⊢
    rw [List.drop_of_length_le (by omega)]
    refine evPut (a := unlikeL [] (s.map fun x => x.f0)) ?_ (evNow (by simp))
    unfold impl_unlike_int.f
    rw [if_pos]
    refine ⟨by simp; omega, ?_⟩
    rw [List.all_eq_true]
    intro y hy
    obtain ⟨x, hx, rfl⟩ := List.mem_map.1 hy
    have := hv x hx
    simp only [setV, varP, Bool.and_eq_true, decide_eq_true_eq] at this
    simp [Lit.wf, IntKind.min, IntKind.max, IntKind.bits, IntKind.signed]
    omega
  | succ d ih =>
    intro i h hv
    have hi : i < s.length := by omega
    refine evSucc ?_
    simp only [impl_HyperOK.l0, varI]
    rw [rdSet s i hi, List.drop_eq_getElem_cons hi, List.all_cons]
    refine evPos (by omega) (evPos (by omega) (evPos (by omega) (evPut rfl (evSplit (fun h1 => evPut rfl (evSplit (fun h2 => evPos ?_ ?_) (fun h2 => evNow ?_))) (fun h1 => evNow ?_)))))
    · simp; omega
    · rw [w64succ i (by omega)]
      have hs : setV s[i] = true := by simp [setV, h1, h2]
      have := ih (i + 1) (by omega) (by
        intro x hx
        rw [List.take_succ_eq_append_getElem hi, List.mem_append] at hx
        rcases hx with hx | hx
        · exact hv x hx
        · rw [List.mem_singleton.1 hx]; exact hs)
      rw [List.take_succ_eq_append_getElem hi, List.map_append] at this
      refine evCast this ?_
      rw [hs]
      rfl
    · simp [setV, h2]
    · simp [setV, h1]
theorem hyperI (k a : Int) (d : List Int) (s : List S127) : Ev (fun n => impl_HyperOK.f n k a d s) (hyperP k a d s) := by
  have bad0 : ∀ q, q = false → Ev (fun n => impl_HyperOK.j0 n true k a d s) q := by
    intro q hq
    refine evSucc ?_
    simp only [impl_HyperOK.j0]
    exact evPos (by first | rfl | trivial) (evNow hq.symm)
  have bad2 : ∀ q, q = false → Ev (fun n => impl_HyperOK.j2 n true k a d s) q := by
    intro q hq
    refine evSucc ?_
    simp only [impl_HyperOK.j2]
    exact evPos (by first | rfl | trivial) (evNow hq.symm)
  have good2 : ∀ q, q = (decide (s.length ≤ 16) && setFrom [] s) → Ev (fun n => impl_HyperOK.j2 n (decide ((s.length : Int) > 16)) k a d s) q := by
    intro q hq
    subst hq
    by_cases h : s.length ≤ 16
    · refine evSucc ?_
      simp only [impl_HyperOK.j2]
      refine evNeg (by simp; omega) ?_
      refine evCast (hyperI_loop s (by omega) s.length 0 (by omega) (by simp)) ?_
      rw [decide_eq_true h, setFrom_is]
      simp
    · rw [decide_eq_true (show (s.length : Int) > 16 by omega)]
      exact bad2 _ (by simp [h])
  have j1 : ∀ x y z q, q = ((x || decide (a = 0)) && (y || decide (d.length = 0)) && (z || decide (s.length = 0)) && (decide (s.length ≤ 16) && setFrom [] s)) → Ev (fun n => impl_HyperOK.j1 n x y z k a d s) q := by
    intro x y z q hq
    subst hq
    refine evSucc ?_
    simp only [impl_HyperOK.j1]
    have hd : (d.length : Int) > 0 ↔ ¬ d.length = 0 := by omega
    have hs : (s.length : Int) > 0 ↔ ¬ s.length = 0 := by omega
    simp only [hd, hs]
    have no : ∀ p : Bool, p = false → (p && (decide (s.length ≤ 16) && setFrom [] s)) = false := fun p h => by rw [h]; rfl
    have yes : ∀ p : Bool, p = true → (p && (decide (s.length ≤ 16) && setFrom [] s)) = (decide (s.length ≤ 16) && setFrom [] s) := fun p h => by rw [h]; rfl
    generalize hT : (decide (s.length ≤ 16) && setFrom [] s) = T at good2 no yes ⊢
    clear hT hd hs
    have em : ∀ p : Prop, p = True ∨ p = False := fun p => (Classical.em p).elim (fun h => .inl (eq_true h)) (fun h => .inr (eq_false h))
    rcases em (a = 0) with ha | ha <;> rcases em (d.length = 0) with hd | hd <;> rcases em (s.length = 0) with hs | hs <;> cases x <;> cases y <;> cases z <;> simp only [ha, hd, hs, not_true_eq_false, not_false_eq_true, if_true, if_false, Bool.false_eq_true, Bool.true_or, Bool.false_or, decide_true, decide_false, Bool.and_true, Bool.true_and, Bool.and_false, Bool.false_and] <;> first | exact bad2 _ rfl | exact good2 _ rfl
  unfold impl_HyperOK.f
  simp only [varI]
  refine evPut rfl (evSplit (fun h1 => evPut rfl (evSplit (fun h2 => ?_) (fun h2 => bad0 _ ?_))) (fun h1 => bad0 _ ?_))
  · by_cases h3 : d.length ≤ 16384
    · rw [decide_eq_false (show ¬ (d.length : Int) > 16384 by omega)]
      have e : hyperP k a d s = ((decide (s.length ≤ 16) && setFrom [] s) && shapeP k a d s) := by simp only [hyperP, h1, h2, decide_eq_true h3]; simp
      rw [e]
      refine evSucc ?_
      simp only [impl_HyperOK.j0]
      unfold shapeP
      refine evNeg (by simp) (evSplit (fun h5 => j1 _ _ _ _ ?_) (fun h5 => evSplit (fun h6 => j1 _ _ _ _ ?_) (fun h6 => evSplit (fun h7 => evSplit (fun h8 => evNow ?_) (fun h8 => j1 _ _ _ _ ?_)) (fun h7 => j1 _ _ _ _ ?_))))
      · rw [if_pos h5, Bool.eq_iff_iff]; simp; grind
      · rw [if_neg h5, if_pos h6, Bool.eq_iff_iff]; simp; grind
      · rw [if_neg h5, if_neg h6, if_pos h7]; have : ¬ d.length ≤ 1024 := by omega
        simp [this]
      · rw [if_neg h5, if_neg h6, if_pos h7, Bool.eq_iff_iff]; have : d.length ≤ 1024 := by omega
        simp [this]; grind
      · rw [if_neg h5, if_neg h6, if_neg h7, Bool.eq_iff_iff]; simp; grind
    · rw [decide_eq_true (show (d.length : Int) > 16384 by omega)]
      exact bad0 _ (by simp [hyperP, h3])
  · simp only [hyperP]; simp [h2]
  · simp only [hyperP]; simp [h1]

theorem eqH (k a : Int) (d : List Int) (s : List S127) (hd : d.length < 4611686018427387904) (hs : s.length < 4611686018427387904) : Ev (fun n => laws_eqHFrame.f n k a d s k a d s) true := by
  unfold laws_eqHFrame.f
  exact evPos rfl (evPos rfl (evBind (eqB d hd) (evPos rfl (evBind (eqSetting s hs) (evPos rfl (Ev.now _))))))
theorem toH (k a : Int) (d : List Int) (s : List S190) (hd : d.length ≤ 1048576) (hs : s.length ≤ 1048576) : Ev (fun n => laws_toHFrame.f n k a d s) (k, a, d, s.map ofSetting) := by
  unfold laws_toHFrame.f
  exact evBind (toB d (by omega)) (evBind (toSetting s hs) (Ev.now _))
theorem szH (k a : Int) (d : List Int) (s : List S190) (hd : d.length ≤ 9223372036854775807) (hs : s.length ≤ 9223372036854775807) : ∃ r, laws_szHFrame.f k a d s 1048576 = some r ∧ (0 ≤ r → d.length ≤ 1048576 ∧ s.length ≤ 1048576) := by
  unfold laws_szHFrame.f laws_szByteS.f laws_szSettingS.f
  rw [w64 (x := 1048576 - (d.length : Int)) (by omega) (by omega)]
  by_cases h : 1048576 - (d.length : Int) < 0
  · rw [if_pos h]
    exact ⟨-1, rfl, by omega⟩
  · rw [if_neg h]
    simp only [Option.bind_some]
    rw [if_neg h, w64 (x := 1048576 - (d.length : Int) - (s.length : Int)) (by omega) (by omega)]
    by_cases h2 : 1048576 - (d.length : Int) - (s.length : Int) < 0
    · rw [if_pos h2]
      exact ⟨-1, rfl, by omega⟩
    · rw [if_neg h2]
      simp only [Option.bind_some]
      rw [if_neg h2]
      exact ⟨_, rfl, by omega⟩

theorem FnExactHyperOK : laws_FnExactHyperOK.Stmt := by
  intro x hx
  obtain ⟨_, _, ⟨h2, _⟩, ⟨h3, _⟩⟩ := hx
  unfold maxLen at h2 h3
  refine evEnds ?_
  unfold laws_FnExactHyperOK.f
  obtain ⟨r, hr, hb⟩ := szH x.f0 x.f1 x.f2 x.f3 (by omega) (by omega)
  refine evPut hr (evSplit (fun _ => Ev.now _) (fun h => ?_))
  obtain ⟨b2, b3⟩ := hb (by omega)
  have t := toH x.f0 x.f1 x.f2 x.f3 b2 b3
  refine evBind t (evBind (hyperS _ _ _ _) (evBind t (evBind (hyperI _ _ _ _) (evNeg (by simp) (evBind t (evBind (eqH _ _ _ _ (by simp; omega) (by simp; omega)) (evPos rfl (Ev.now _))))))))

end Go.Proofs.Ytjhcphcjpndciaa.Pure
