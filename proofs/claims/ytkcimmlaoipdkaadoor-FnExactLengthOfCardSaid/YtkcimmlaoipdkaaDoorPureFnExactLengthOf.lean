/- The program's LengthOf answers what the reference's LengthOf answers, for every list; no condition. -/
import Derived.Test.YtkcimmlaoipdkaaDoorPFnExactLengthOfx0
import Derived.Test.YtkcimmlaoipdkaaDoorPFnExactLengthOfx1
import Derived.Test.YtkcimmlaoipdkaaDoorPFnExactLengthOfx2
import Derived.Test.YtkcimmlaoipdkaaDoorStmtFnExactLengthOf
import Derived.Laws.BitsLemmas
import Derived.Laws.BitsAllLaws
set_option linter.unusedVariables false
set_option linter.unusedSimpArgs false
set_option maxRecDepth 4000
namespace Go.Proofs.YtkcimmlaoipdkaaDoor.Pure
open Go.RowKit Go.Proofs.YtkcimmlaoipdkaaDoor.PFnExactLengthOf Go.Proofs.YtkcimmlaoipdkaaDoorW.PrintWords Go.Proofs.YtkcimmlaoipdkaaDoorW.PrintLast Go.Proofs.YtkcimmlaoipdkaaDoorW.PrintMore

/-! ### tools: what a printed function comes to -/
theorem evSucc {α : Type} {g : Nat → Option α} {r : α} (h : Ev (fun k => g (k + 1)) r) : Ev g r := Ev.step (fun _ => rfl) h
theorem evPos {α : Type} {c : Prop} {dc : Decidable c} {a b : Nat → Option α} {r : α} (h : c) (e : Ev a r) : Ev (fun k => if c then a k else b k) r :=
  Ev.congr (fun _ => if_pos h) e
theorem evNeg {α : Type} {c : Prop} {dc : Decidable c} {a b : Nat → Option α} {r : α} (h : ¬ c) (e : Ev b r) : Ev (fun k => if c then a k else b k) r :=
  Ev.congr (fun _ => if_neg h) e
theorem evSplit {α : Type} {c : Prop} {dc : Decidable c} {a b : Nat → Option α} {r : α} (h : c → Ev a r) (h' : ¬ c → Ev b r) : Ev (fun k => if c then a k else b k) r := by
  by_cases hc : c
  · exact evPos hc (h hc)
  · exact evNeg hc (h' hc)
theorem evBind {α β : Type} {g : Nat → Option α} {f : Nat → α → Option β} {a : α} {r : β} (h : Ev g a) (k : Ev (fun n => f n a) r) : Ev (fun n => (g n).bind (f n)) r := Ev.bind h k
theorem evPut {α β : Type} {o : Option α} {f : Nat → α → Option β} {a : α} {r : β} (h : o = some a) (k : Ev (fun n => f n a) r) : Ev (fun n => o.bind (f n)) r :=
  Ev.congr (fun _ => by rw [h]; rfl) k
theorem evNow {α : Type} {r r' : α} (h : r = r') : Ev (fun _ => some r) r' := h ▸ Ev.now r
theorem evOf {α : Type} {o : Option α} {r : α} (h : o = some r) : Ev (fun _ => o) r := ⟨0, fun _ _ => h⟩
theorem evEnds {α : Type} {g : Nat → Option α} {r : α} (h : Ev g r) : ∃ k, g k = some r := Ev.rounds h
theorem w64 {x : Int} (h : -9223372036854775808 ≤ x) (h' : x ≤ 9223372036854775807) : wrap64 x = x := by unfold wrap64; omega
theorem w64succ (i : Nat) (h : i < 4611686018427387904) : wrap64 ((i : Int) + 1) = ((i + 1 : Nat) : Int) := by unfold wrap64; omega
theorem wfI {x : Int} (h : (Lit.int .i64 x).wf = true) : -9223372036854775808 ≤ x ∧ x ≤ 9223372036854775807 := by
  simp only [Lit.wf, IntKind.min, IntKind.max, IntKind.bits, IntKind.signed, Bool.and_eq_true, decide_eq_true_eq] at h
  simpa using h
theorem wfB {x : Int} (h : (Lit.int .u8 x).wf = true) : 0 ≤ x ∧ x ≤ 255 := by
  simp only [Lit.wf, IntKind.min, IntKind.max, IntKind.bits, IntKind.signed, Bool.and_eq_true, decide_eq_true_eq] at h
  simpa using h
theorem rdN (l : List Int) (i : Nat) (h : i < l.length) : rd l (i : Int) = l[i] := by simp [rd, List.getD_eq_getElem?_getD, h]
theorem fillStep {α : Type} (l : List α) (z : α) (i d : Nat) (h : i + (d + 1) = l.length) : (l.take i ++ List.replicate (d + 1) z).set i (l[i]'(by omega)) = l.take (i + 1) ++ List.replicate d z := by
  rw [List.set_append_right _ _ (by simp; omega), List.take_succ_eq_append_getElem (show i < l.length by omega), List.append_assoc]
  congr 1
  have e : i - (l.take i).length = 0 := by simp; omega
  rw [e]
  rfl
theorem evCast {α : Type} {g : Nat → Option α} {r r' : α} (h : Ev g r') (e : r' = r) : Ev g r := e ▸ h

/-! ### slices of Field: the copy, the comparison -/
def ofField (x : S77) : S78 := ⟨x.f0, x.f1⟩
theorem toField_loop (l : List S77) (hl : l.length < 4611686018427387904) : ∀ (d i : Nat), i + d = l.length → Ev (fun k => laws_toFieldS.l0 k l ((l.map ofField).take i ++ List.replicate d z78) (i : Int)) (l.map ofField) := by
  intro d
  induction d with
  | zero =>
    intro i h
    refine evSucc ?_
    simp only [laws_toFieldS.l0]
    refine evNeg (by omega) (evNow ?_)
    rw [List.take_of_length_le (by simp; omega)]; simp
  | succ d ih =>
    intro i h
    refine evSucc ?_
    simp only [laws_toFieldS.l0, laws_toField.f]
    refine evPos (by omega) (evPos (by omega) (evPut rfl (evPos (by simp; omega) ?_)))
    have e : (⟨(rd_T77 l (i : Int)).f0, (rd_T77 l (i : Int)).f1⟩ : S78) = (l.map ofField)[i]'(by simp; omega) := by
      simp [rd_T77, List.getD_eq_getElem?_getD, ofField, show i < l.length by omega]
    rw [w64succ i (by omega), Int.toNat_natCast]
    show Ev (fun k => laws_toFieldS.l0 k l (((l.map ofField).take i ++ List.replicate (d + 1) z78).set i ⟨(rd_T77 l (i : Int)).f0, (rd_T77 l (i : Int)).f1⟩) _) _
    rw [e, fillStep (l.map ofField) _ i d (by simp; omega)]
    exact ih (i + 1) (by omega)
theorem toField (l : List S77) (hl : l.length ≤ 1048576) : Ev (fun k => laws_toFieldS.f k l) (l.map ofField) := by
  unfold laws_toFieldS.f
  refine evPos (by omega) (evPos (by omega) ?_)
  have := toField_loop l (by omega) l.length 0 (by omega)
  simpa using this
theorem eqField1 (x : S78) : laws_eqField.f x.f0 x.f1 x.f0 x.f1 = some true := by
  unfold laws_eqField.f; simp
theorem eqField_loop (l : List S78) (hl : l.length < 4611686018427387904) : ∀ (d i : Nat), i + d = l.length → Ev (fun k => laws_eqFieldS.l0 k l l (i : Int)) true := by
  intro d
  induction d with
  | zero =>
    intro i h
    refine evSucc ?_
    simp only [laws_eqFieldS.l0]
    exact evNeg (by omega) (Ev.now _)
  | succ d ih =>
    intro i h
    refine evSucc ?_
    simp only [laws_eqFieldS.l0]
    refine evPos (by omega) (evPos (by omega) (evPos (by omega) (evPut (eqField1 _) (evPos rfl ?_))))
    rw [w64succ i (by omega)]
    exact ih (i + 1) (by omega)
theorem eqField (l : List S78) (hl : l.length < 4611686018427387904) : Ev (fun k => laws_eqFieldS.f k l l) true := by
  unfold laws_eqFieldS.f
  exact evPos rfl (eqField_loop l hl l.length 0 (by omega))

/-! ### fields: their sizes, and which are valid -/
def smallF (x : S77) : Prop := x.f0.size ≤ 1048576 ∧ x.f1.size ≤ 1048576
theorem szField_is (x : S77) (left : Int) (hl : 0 ≤ left ∧ left ≤ 1048576) (hx : good77 x) : ∃ r, laws_szField.f x.f0 x.f1 left = some r ∧ r ≤ 1048576 ∧ (0 ≤ r → smallF x) := by
  obtain ⟨h0, h1⟩ := hx
  unfold maxLen at h0 h1
  unfold laws_szField.f smallF
  rw [w64 (x := left - (x.f0.size : Int)) (by omega) (by omega)]
  by_cases h : left - (x.f0.size : Int) < 0
  · rw [if_pos h]
    exact ⟨-1, rfl, by omega, by omega⟩
  · rw [if_neg h, w64 (x := left - (x.f0.size : Int) - (x.f1.size : Int)) (by omega) (by omega)]
    by_cases h2 : left - (x.f0.size : Int) - (x.f1.size : Int) < 0
    · rw [if_pos h2]
      exact ⟨-1, rfl, by omega, by omega⟩
    · rw [if_neg h2]
      exact ⟨_, rfl, by omega, fun _ => by omega⟩
theorem rdFL (l : List S77) (i : Nat) (h : i < l.length) : rd_T77 l (i : Int) = l[i] := by simp [rd_T77, List.getD_eq_getElem?_getD, h]
theorem rdFI (l : List S78) (i : Nat) (h : i < l.length) : rd_T78 l (i : Int) = l[i] := by simp [rd_T78, List.getD_eq_getElem?_getD, h]
theorem szFieldS_loop (l : List S77) (hl : l.length ≤ 1048576) (hg : ∀ x ∈ l, good77 x) : ∀ (d i : Nat) (left : Int), i + d = l.length → 0 ≤ left → left ≤ 1048576 →
    ∃ r, Ev (fun k => laws_szFieldS.l0 k l left (i : Int)) r ∧ r ≤ 1048576 ∧ (0 ≤ r → ∀ x ∈ l.drop i, smallF x) := by
  intro d
  induction d with
  | zero =>
    intro i left h h0 h1
    refine ⟨left, evSucc ?_, h1, fun _ x hx => ?_⟩
    · simp only [laws_szFieldS.l0]
      exact evNeg (by omega) (Ev.now _)
    · rw [List.drop_of_length_le (by omega)] at hx
      simp at hx
  | succ d ih =>
    intro i left h h0 h1
    have hi : i < l.length := by omega
    obtain ⟨r, hr, hb, hs⟩ := szField_is l[i] left ⟨h0, h1⟩ (hg _ (List.getElem_mem hi))
    by_cases hn : r < 0
    · refine ⟨-1, evSucc ?_, by omega, by omega⟩
      simp only [laws_szFieldS.l0]
      rw [rdFL l i hi]
      exact evPos (by omega) (evPos (by omega) (evPut hr (evPos hn (Ev.now _))))
    · obtain ⟨q, hq, hqb, hqs⟩ := ih (i + 1) r (by omega) (by omega) hb
      refine ⟨q, evSucc ?_, hqb, fun h0 x hx => ?_⟩
      · simp only [laws_szFieldS.l0]
        rw [rdFL l i hi, w64succ i (by omega)]
        exact evPos (by omega) (evPos (by omega) (evPut hr (evNeg hn hq)))
      · rw [List.drop_eq_getElem_cons hi, List.mem_cons] at hx
        rcases hx with rfl | hx
        · exact hs (by omega)
        · exact hqs h0 x hx
/-- What is left of 2^20: the list is short, and so are its texts. -/
theorem szFieldS (l : List S77) (left : Int) (h0 : 0 ≤ left) (h1 : left ≤ 1048576) (hm : l.length ≤ maxLen) (hg : ∀ x ∈ l, good77 x) : ∃ r, Ev (fun k => laws_szFieldS.f k l left) r ∧ r ≤ 1048576 ∧ (0 ≤ r → l.length ≤ 1048576 ∧ ∀ x ∈ l, smallF x) := by
  unfold maxLen at hm
  unfold laws_szFieldS.f
  rw [w64 (x := left - (l.length : Int)) (by omega) (by omega)]
  by_cases h : left - (l.length : Int) < 0
  · exact ⟨-1, evPos h (Ev.now _), by omega, by omega⟩
  · obtain ⟨r, hr, hb, hs⟩ := szFieldS_loop l (by omega) hg l.length 0 (left - (l.length : Int)) (by omega) (by omega) (by omega)
    exact ⟨r, evNeg h hr, hb, fun h0 => ⟨by omega, by simpa using hs h0⟩⟩
def small (x : S78) : Prop := x.f0.size ≤ 1048576 ∧ x.f1.size ≤ 1048576
theorem small_map (l : List S77) (h : ∀ x ∈ l, smallF x) : ∀ x ∈ l.map ofField, small x := by
  intro x hx
  obtain ⟨y, hy, rfl⟩ := List.mem_map.1 hx
  exact h y hy
theorem lenD (s : ByteArray) : s.data.toList.length = s.size := by rw [Array.length_toList]; rfl
theorem btL (s : ByteArray) (i : Nat) (h : i < s.data.toList.length) : bt s (i : Int) = ((s.data.toList[i]).toNat : Int) := by
  have h2 : i < s.size := by rw [lenD] at h; exact h
  have e := bt_at s (i : Int) (by simpa using h2)
  rw [← e]
  rfl

/-! ### from 1 to most bytes, all from lo to hi -/
def lettersP (v : ByteArray) (most lo hi : Int) : Bool := v.data.toList.all (fun b => decide (lo ≤ (b.toNat : Int) ∧ (b.toNat : Int) ≤ hi)) && decide (1 ≤ v.size ∧ (v.size : Int) ≤ most)
theorem lettersI_loop (v : ByteArray) (most lo hi : Int) (hv : v.size ≤ 100000000) : ∀ (d i : Nat), i + d = v.data.toList.length →
    Ev (fun k => impl_letters.l0 k v most lo hi (v.size : Int) (i : Int)) ((v.data.toList.drop i).all (fun b => decide (lo ≤ (b.toNat : Int) ∧ (b.toNat : Int) ≤ hi)) && decide (1 ≤ v.size ∧ (v.size : Int) ≤ most)) := by
  have hL := lenD v
  intro d
  induction d with
  | zero =>
    intro i h
    refine evSucc ?_
    simp only [impl_letters.l0]
    rw [List.drop_of_length_le (by omega)]
    refine evNeg (by omega) (evSplit (fun h1 => evNow ?_) (fun h1 => evNow ?_))
    · rw [List.all_nil, Bool.true_and]
      exact decide_eq_decide.2 ⟨fun h => ⟨by omega, h⟩, fun h => h.2⟩
    · rw [decide_eq_false (by omega)]; simp
  | succ d ih =>
    intro i h
    have hi : i < v.data.toList.length := by omega
    refine evSucc ?_
    simp only [impl_letters.l0]
    rw [btL v i hi, List.drop_eq_getElem_cons hi, List.all_cons, w64succ i (by omega)]
    refine evPos (by omega) (evPos (by omega) (evPos (by omega) (evSplit (fun h1 => evNow ?_) (fun h1 => evSplit (fun h2 => evNow ?_) (fun h2 => ?_)))))
    · rw [decide_eq_false (by omega)]; rfl
    · rw [decide_eq_false (by omega)]; rfl
    · rw [decide_eq_true (by omega), Bool.true_and]
      exact ih (i + 1) (by omega)
theorem lettersI (v : ByteArray) (most lo hi : Int) (hv : v.size ≤ 100000000) : Ev (fun k => impl_letters.f k v most lo hi) (lettersP v most lo hi) := by
  unfold impl_letters.f lettersP
  exact evCast (lettersI_loop v most lo hi hv v.data.toList.length 0 (by omega)) (by rw [List.drop_zero])

/-! ### the length that a list of fields tells -/
def lenVal (v : ByteArray) : Option Nat := if 1 ≤ v.size ∧ v.size ≤ 9 then Go.Lib.decFrom 0 v.data.toList else none
def nameCL : List UInt8 := [99, 111, 110, 116, 101, 110, 116, 45, 108, 101, 110, 103, 116, 104]
def stI : Option Nat → Int
  | none => -1
  | some m => (m : Int)
def lenGo : List S78 → Option Nat → Int × Int
  | [], st => (stI st, 0)
  | f :: r, st => if f.f0.toList = nameCL then (if st.isSome = true then (0, 17) else match lenVal f.f1 with | some m => lenGo r (some m) | none => (0, 17)) else lenGo r st
theorem decAll : ∀ (l : List UInt8) (acc : Nat), (Go.Lib.decFrom acc l).isSome = l.all (fun b => decide ((48 : Int) ≤ (b.toNat : Int) ∧ (b.toNat : Int) ≤ 57))
  | [], _ => rfl
  | b :: r, acc => by
    rw [List.all_cons, Go.Lib.decFrom]
    unfold Go.Lib.digitVal
    by_cases h : 48 ≤ b.toNat ∧ b.toNat ≤ 57
    · rw [if_pos h, decide_eq_true (by omega), Bool.true_and]
      exact decAll r _
    · rw [if_neg h, decide_eq_false (by omega)]
      rfl
theorem lenLetters (v : ByteArray) : lettersP v 9 48 57 = (lenVal v).isSome := by
  unfold lettersP lenVal
  rw [← decAll _ 0]
  by_cases h : 1 ≤ v.size ∧ v.size ≤ 9
  · rw [if_pos h, decide_eq_true (by omega), Bool.and_true]
  · rw [if_neg h, decide_eq_false (by omega), Bool.and_false]
    rfl
theorem lenAtoi (v : ByteArray) (m : Nat) (h : lenVal v = some m) : strconv_Atoi.f v = some ((m : Int), none) := by
  unfold lenVal at h
  by_cases hc : 1 ≤ v.size ∧ v.size ≤ 9
  · rw [if_pos hc] at h
    unfold strconv_Atoi.f
    rw [if_pos (by omega)]
    have hL := lenD v
    have ha : Go.Lib.atoi v.data.toList = some (m : Int) := by
      cases hl : v.data.toList with
      | nil => rw [hl] at hL; simp at hL; omega
      | cons b r =>
        rw [hl] at h
        have hb : 48 ≤ b.toNat ∧ b.toNat ≤ 57 := by
          have := decAll (b :: r) 0
          rw [h, List.all_cons] at this
          have h2 := (Bool.and_eq_true_iff.1 this.symm).1
          have h3 := of_decide_eq_true h2
          omega
        have n1 : (b == 45) = false := beq_eq_false_iff_ne.2 (fun e => by rw [e] at hb; exact absurd hb.1 (by decide))
        have n2 : (b == 43) = false := beq_eq_false_iff_ne.2 (fun e => by rw [e] at hb; exact absurd hb.1 (by decide))
        rw [Go.Lib.atoi, n1, n2]
        simp only [Bool.false_eq_true, if_false]
        rw [Go.Lib.decNat, List.isEmpty_cons]
        simp only [Bool.false_eq_true, if_false, h, Option.map_some]
    rw [ha]
  · rw [if_neg hc] at h
    exact absurd h (by simp)
theorem lenI_loop (l : List S78) (hl : l.length ≤ 64) (hs : ∀ x ∈ l, small x) : ∀ (d i : Nat) (st : Option Nat), i + d = l.length → Ev (fun k => impl_LengthOf.l0 k (stI st) st.isSome l (l.length : Int) (i : Int)) (lenGo (l.drop i) st) := by
  intro d
  induction d with
  | zero =>
    intro i st h
    refine evSucc ?_
    simp only [impl_LengthOf.l0]
    rw [List.drop_of_length_le (by omega)]
    exact evNeg (by omega) (Ev.now _)
  | succ d ih =>
    intro i st h
    have hi : i < l.length := by omega
    have hv := (hs _ (List.getElem_mem hi)).2
    refine evSucc ?_
    simp only [impl_LengthOf.l0]
    rw [rdFI l i hi, List.drop_eq_getElem_cons hi, lenGo, w64succ i (by omega)]
    refine evPos (by omega) (evPos (by omega) (evPos (by omega) (evSplit (fun h1 => ?_) (fun h1 => ?_))))
    · rw [if_pos (show _ = nameCL from h1)]
      refine evSplit (fun h2 => evNow (by rw [if_pos h2])) (fun h2 => ?_)
      rw [if_neg h2]
      have hst : st = none := by cases st with | none => rfl | some m => exact absurd rfl h2
      subst hst
      refine evBind (evCast (lettersI (l[i]).f1 9 48 57 (by omega)) rfl) ?_
      rw [lenLetters]
      cases hm : lenVal (l[i]).f1 with
      | none => exact evNeg (by simp) (Ev.now _)
      | some m =>
        refine evPos (by simp) (evPut (lenAtoi _ m hm) ?_)
        exact ih (i + 1) (some m) (by omega)
    · rw [if_neg (show ¬ (_ = nameCL) from h1)]
      exact ih (i + 1) st (by omega)
theorem lenI (l : List S78) (hs : ∀ x ∈ l, small x) : Ev (fun k => impl_LengthOf.f k l) (if l.length ≤ 64 then lenGo l none else (0, 4)) := by
  unfold impl_LengthOf.f
  by_cases h : l.length ≤ 64
  · rw [if_pos h]
    exact evNeg (by omega) (evCast (lenI_loop l h hs l.length 0 none (by omega)) (by rw [List.drop_zero]))
  · rw [if_neg h]
    exact evPos (by omega) (Ev.now _)
theorem lenS_digits (l : List S78) (x5 : Int) (v : ByteArray) (hv : v.size ≤ 9) (r : Int × Int) : ∀ (d i acc : Nat), i + d = v.data.toList.length → acc < 10 ^ i →
    (∀ m : Nat, Go.Lib.decFrom acc (v.data.toList.drop i) = some m → Ev (fun k => spec_LengthOf.l0 k l (m : Int) (wrap64 (x5 + 1))) r) → (Go.Lib.decFrom acc (v.data.toList.drop i) = none → r = (0, 17)) →
    Ev (fun k => spec_LengthOf.l1 k l (acc : Int) x5 v (i : Int)) r := by
  have hL := lenD v
  intro d
  induction d with
  | zero =>
    intro i acc h ha h1 h2
    refine evSucc ?_
    simp only [spec_LengthOf.l1]
    rw [List.drop_of_length_le (by omega)] at h1
    exact evNeg (by omega) (h1 acc rfl)
  | succ d ih =>
    intro i acc h ha h1 h2
    have hi : i < v.data.toList.length := by omega
    refine evSucc ?_
    simp only [spec_LengthOf.l1]
    rw [List.drop_eq_getElem_cons hi, Go.Lib.decFrom] at h1 h2
    unfold Go.Lib.digitVal at h1 h2
    rw [btL v i hi, w64succ i (by omega)]
    have hp : 10 ^ i ≤ 10 ^ 8 := Nat.pow_le_pow_right (by omega) (by omega)
    have hps : 10 ^ (i + 1) = 10 ^ i * 10 := Nat.pow_succ ..
    have hb : (v.data.toList[i]).toNat < 256 := (v.data.toList[i]).toNat_lt
    refine evPos (by omega) (evPos (by omega) (evSplit (fun h3 => evNow ?_) (fun h3 => evSplit (fun h4 => evNow ?_) (fun h4 => ?_))))
    · rw [if_neg (by omega)] at h2
      exact (h2 rfl).symm
    · rw [if_neg (by omega)] at h2
      exact (h2 rfl).symm
    · rw [if_pos (by omega)] at h1 h2
      have e : wrap64 (wrap64 (10 * (acc : Int)) + (((v.data.toList[i]).toNat : Int) - 48) % 256) = ((acc * 10 + ((v.data.toList[i]).toNat - 48) : Nat) : Int) := by
        rw [w64 (x := 10 * (acc : Int)) (by omega) (by omega), w64 (by omega) (by omega)]
        omega
      rw [e]
      exact ih (i + 1) _ (by omega) (by omega) h1 h2
theorem lenS_loop (l : List S78) (hl : l.length ≤ 64) (hs : ∀ x ∈ l, small x) : ∀ (d i : Nat) (st : Option Nat), i + d = l.length → Ev (fun k => spec_LengthOf.l0 k l (stI st) (i : Int)) (lenGo (l.drop i) st) := by
  intro d
  induction d with
  | zero =>
    intro i st h
    refine evSucc ?_
    simp only [spec_LengthOf.l0]
    rw [List.drop_of_length_le (by omega)]
    exact evNeg (by omega) (Ev.now _)
  | succ d ih =>
    intro i st h
    have hi : i < l.length := by omega
    have hv := (hs _ (List.getElem_mem hi)).2
    refine evSucc ?_
    simp only [spec_LengthOf.l0]
    rw [rdFI l i hi, List.drop_eq_getElem_cons hi, lenGo]
    have bad : Ev (fun k => spec_LengthOf.j1 k l (i : Int) (l[i]).f1 true) (0, 17) := by
      refine evSucc ?_
      simp only [spec_LengthOf.j1]
      exact evPos (by first | rfl | trivial) (Ev.now _)
    refine evPos (by omega) (evPos (by omega) (evSplit (fun h1 => ?_) (fun h1 => ?_)))
    · rw [if_pos (show _ = nameCL from h1)]
      cases st with
      | some m => exact evPos (by simp only [stI]; omega) bad
      | none =>
        refine evNeg (by simp [stI]) ?_
        rw [if_neg (by simp)]
        by_cases h2 : (l[i]).f1.size < 1
        · refine evPos (by omega) ?_
          rw [lenVal, if_neg (by omega)]
          exact bad
        · refine evNeg (by omega) ?_
          by_cases h3 : (l[i]).f1.size ≤ 9
          · rw [decide_eq_false (by omega)]
            refine evSucc ?_
            simp only [spec_LengthOf.j1]
            refine evNeg (by simp) ?_
            have e : lenVal (l[i]).f1 = Go.Lib.decFrom 0 (l[i]).f1.data.toList := by rw [lenVal, if_pos (by omega)]
            rw [e]
            refine lenS_digits l (i : Int) (l[i]).f1 h3 _ (l[i]).f1.data.toList.length 0 0 (by omega) (by decide) ?_ ?_
            · intro m hm
              rw [List.drop_zero] at hm
              rw [hm, w64succ i (by omega)]
              exact ih (i + 1) (some m) (by omega)
            · intro hm
              rw [List.drop_zero] at hm
              rw [hm]
          · rw [decide_eq_true (by omega), lenVal, if_neg (by omega)]
            exact bad
    · rw [if_neg (show ¬ (_ = nameCL) from h1), w64succ i (by omega)]
      exact ih (i + 1) st (by omega)
theorem lenS (l : List S78) (hs : ∀ x ∈ l, small x) : Ev (fun k => spec_LengthOf.f k l) (if l.length ≤ 64 then lenGo l none else (0, 4)) := by
  unfold spec_LengthOf.f
  by_cases h : l.length ≤ 64
  · rw [if_pos h]
    exact evNeg (by omega) (evCast (lenS_loop l h hs l.length 0 none (by omega)) (by rw [List.drop_zero]))
  · rw [if_neg h]
    exact evPos (by omega) (Ev.now _)

theorem FnExactLengthOf : laws_FnExactLengthOf.Stmt := by
  intro l hx
  obtain ⟨hm, hg⟩ := hx
  refine evEnds ?_
  unfold laws_FnExactLengthOf.f
  obtain ⟨r, hr, _, hb⟩ := szFieldS l 1048576 (by omega) (by omega) hm hg
  refine evBind hr (evSplit (fun _ => Ev.now _) (fun h => ?_))
  obtain ⟨b1, b2⟩ := hb (by omega)
  have t := toField l b1
  have hs := small_map l b2
  have hl : (l.map ofField).length ≤ 1048576 := by simpa using b1
  refine evBind t (evBind (lenS _ hs) (evBind t (evBind (lenI _ hs) ?_)))
  refine evPos rfl (evSucc ?_)
  simp only [laws_FnExactLengthOf.j0]
  exact evNeg (by simp) (evBind t (evBind (eqField _ (Nat.lt_of_le_of_lt hl (by omega))) (evPos rfl (Ev.now _))))

end Go.Proofs.YtkcimmlaoipdkaaDoor.Pure
