/- The program's RequestOf answers what the reference's RequestOf answers, in memory of its own, for every list; no condition. -/
import Derived.Test.YtkcimmlaoipdkaaDoorPFnExactRequestOfx0
import Derived.Test.YtkcimmlaoipdkaaDoorPFnExactRequestOfx1
import Derived.Test.YtkcimmlaoipdkaaDoorPFnExactRequestOfx2
import Derived.Test.YtkcimmlaoipdkaaDoorPFnExactRequestOfx3
import Derived.Test.YtkcimmlaoipdkaaDoorPFnExactRequestOfx4
import Derived.Test.YtkcimmlaoipdkaaDoorPFnExactRequestOfx5
import Derived.Test.YtkcimmlaoipdkaaDoorPFnExactRequestOfx6
import Derived.Test.YtkcimmlaoipdkaaDoorPFnExactRequestOfx7
import Derived.Test.YtkcimmlaoipdkaaDoorPFnExactRequestOfx8
import Derived.Test.YtkcimmlaoipdkaaDoorPFnExactRequestOfx9
import Derived.Test.YtkcimmlaoipdkaaDoorPFnExactRequestOfx10
import Derived.Test.YtkcimmlaoipdkaaDoorPFnExactRequestOfx11
import Derived.Test.YtkcimmlaoipdkaaDoorStmtFnExactRequestOf
import Derived.Laws.BitsLemmas
import Derived.Laws.BitsAllLaws
set_option linter.unusedVariables false
set_option linter.unusedSimpArgs false
set_option maxRecDepth 4000
namespace Go.Proofs.YtkcimmlaoipdkaaDoor.Pure
open Go.RowKit Go.Proofs.YtkcimmlaoipdkaaDoor.PFnExactRequestOf Go.Proofs.YtkcimmlaoipdkaaDoorW.PrintWords Go.Proofs.YtkcimmlaoipdkaaDoorW.PrintLast Go.Proofs.YtkcimmlaoipdkaaDoorW.PrintMore

/-! ### tools: what a printed function comes to -/
theorem evSucc {α : Type} {g : Nat → Option α} {r : α} (h : Ev (fun k => g (k + 1)) r) : Ev g r := Ev.step (fun _ => rfl) h
theorem evPos {α : Type} {c : Prop} {dc : Decidable c} {a b : Nat → Option α} {r : α} (h : c) (e : Ev a r) : Ev (fun k => if c then a k else b k) r :=
  Ev.congr (fun _ => if_pos h) e
theorem evNeg {α : Type} {c : Prop} {dc : Decidable c} {a b : Nat → Option α} {r : α} (h : ¬ c) (e : Ev b r) : Ev (fun k => if c then a k else b k) r :=
  Ev.congr (fun _ => if_neg h) e
theorem evSplit {α : Type} {c : Prop} {dc : Decidable c} {a b : Nat → Option α} {r : α} (h : c → Ev a r) (h' : ¬ c → Ev b r) : Ev (fun k => if c then a k else b k) r := by
  by_cases hc : c
  · exact evPos hc (h hc)
  · exact evNeg hc (h' hc)
theorem evBind {α β : Type} {g : Nat → Option α} {f : Nat → α → Option β} {a : α} {r : β} (h : Ev g a) (k : Ev (fun n => f n a) r) : Ev (fun n => (g n).bind (f n)) r := Ev.bind h k
theorem evPut {α β : Type} {o : Option α} {f : Nat → α → Option β} {a : α} {r : β} (h : o = some a) (k : Ev (fun n => f n a) r) : Ev (fun n => o.bind (f n)) r :=
  Ev.congr (fun _ => by rw [h]; rfl) k
theorem evNow {α : Type} {r r' : α} (h : r = r') : Ev (fun _ => some r) r' := h ▸ Ev.now r
theorem evOf {α : Type} {o : Option α} {r : α} (h : o = some r) : Ev (fun _ => o) r := ⟨0, fun _ _ => h⟩
theorem evEnds {α : Type} {g : Nat → Option α} {r : α} (h : Ev g r) : ∃ k, g k = some r := Ev.rounds h
theorem w64 {x : Int} (h : -9223372036854775808 ≤ x) (h' : x ≤ 9223372036854775807) : wrap64 x = x := by unfold wrap64; omega
theorem w64succ (i : Nat) (h : i < 4611686018427387904) : wrap64 ((i : Int) + 1) = ((i + 1 : Nat) : Int) := by unfold wrap64; omega
theorem wfI {x : Int} (h : (Lit.int .i64 x).wf = true) : -9223372036854775808 ≤ x ∧ x ≤ 9223372036854775807 := by
  simp only [Lit.wf, IntKind.min, IntKind.max, IntKind.bits, IntKind.signed, Bool.and_eq_true, decide_eq_true_eq] at h
  simpa using h
theorem wfB {x : Int} (h : (Lit.int .u8 x).wf = true) : 0 ≤ x ∧ x ≤ 255 := by
  simp only [Lit.wf, IntKind.min, IntKind.max, IntKind.bits, IntKind.signed, Bool.and_eq_true, decide_eq_true_eq] at h
  simpa using h
theorem rdN (l : List Int) (i : Nat) (h : i < l.length) : rd l (i : Int) = l[i] := by simp [rd, List.getD_eq_getElem?_getD, h]
theorem fillStep {α : Type} (l : List α) (z : α) (i d : Nat) (h : i + (d + 1) = l.length) : (l.take i ++ List.replicate (d + 1) z).set i (l[i]'(by omega)) = l.take (i + 1) ++ List.replicate d z := by
  rw [List.set_append_right _ _ (by simp; omega), List.take_succ_eq_append_getElem (show i < l.length by omega), List.append_assoc]
  congr 1
  have e : i - (l.take i).length = 0 := by simp; omega
  rw [e]
  rfl
theorem evCast {α : Type} {g : Nat → Option α} {r r' : α} (h : Ev g r') (e : r' = r) : Ev g r := e ▸ h

/-! ### slices of Field: the copy, the comparison -/
def ofField (x : S77) : S78 := ⟨x.f0, x.f1⟩
theorem toField_loop (l : List S77) (hl : l.length < 4611686018427387904) : ∀ (d i : Nat), i + d = l.length → Ev (fun k => laws_toFieldS.l0 k l ((l.map ofField).take i ++ List.replicate d z78) (i : Int)) (l.map ofField) := by
  intro d
  induction d with
  | zero =>
    intro i h
    refine evSucc ?_
    simp only [laws_toFieldS.l0]
    refine evNeg (by omega) (evNow ?_)
    rw [List.take_of_length_le (by simp; omega)]; simp
  | succ d ih =>
    intro i h
    refine evSucc ?_
    simp only [laws_toFieldS.l0, laws_toField.f]
    refine evPos (by omega) (evPos (by omega) (evPut rfl (evPos (by simp; omega) ?_)))
    have e : (⟨(rd_T77 l (i : Int)).f0, (rd_T77 l (i : Int)).f1⟩ : S78) = (l.map ofField)[i]'(by simp; omega) := by
      simp [rd_T77, List.getD_eq_getElem?_getD, ofField, show i < l.length by omega]
    rw [w64succ i (by omega), Int.toNat_natCast]
    show Ev (fun k => laws_toFieldS.l0 k l (((l.map ofField).take i ++ List.replicate (d + 1) z78).set i ⟨(rd_T77 l (i : Int)).f0, (rd_T77 l (i : Int)).f1⟩) _) _
    rw [e, fillStep (l.map ofField) _ i d (by simp; omega)]
    exact ih (i + 1) (by omega)
theorem toField (l : List S77) (hl : l.length ≤ 1048576) : Ev (fun k => laws_toFieldS.f k l) (l.map ofField) := by
  unfold laws_toFieldS.f
  refine evPos (by omega) (evPos (by omega) ?_)
  have := toField_loop l (by omega) l.length 0 (by omega)
  simpa using this
theorem eqField1 (x : S78) : laws_eqField.f x.f0 x.f1 x.f0 x.f1 = some true := by
  unfold laws_eqField.f; simp
theorem eqField_loop (l : List S78) (hl : l.length < 4611686018427387904) : ∀ (d i : Nat), i + d = l.length → Ev (fun k => laws_eqFieldS.l0 k l l (i : Int)) true := by
  intro d
  induction d with
  | zero =>
    intro i h
    refine evSucc ?_
    simp only [laws_eqFieldS.l0]
    exact evNeg (by omega) (Ev.now _)
  | succ d ih =>
    intro i h
    refine evSucc ?_
    simp only [laws_eqFieldS.l0]
    refine evPos (by omega) (evPos (by omega) (evPos (by omega) (evPut (eqField1 _) (evPos rfl ?_))))
    rw [w64succ i (by omega)]
    exact ih (i + 1) (by omega)
theorem eqField (l : List S78) (hl : l.length < 4611686018427387904) : Ev (fun k => laws_eqFieldS.f k l l) true := by
  unfold laws_eqFieldS.f
  exact evPos rfl (eqField_loop l hl l.length 0 (by omega))

/-! ### fields: their sizes, and which are valid -/
def smallF (x : S77) : Prop := x.f0.size ≤ 1048576 ∧ x.f1.size ≤ 1048576
theorem szField_is (x : S77) (left : Int) (hl : 0 ≤ left ∧ left ≤ 1048576) (hx : good77 x) : ∃ r, laws_szField.f x.f0 x.f1 left = some r ∧ r ≤ 1048576 ∧ (0 ≤ r → smallF x) := by
  obtain ⟨h0, h1⟩ := hx
  unfold maxLen at h0 h1
  unfold laws_szField.f smallF
  rw [w64 (x := left - (x.f0.size : Int)) (by omega) (by omega)]
  by_cases h : left - (x.f0.size : Int) < 0
  · rw [if_pos h]
    exact ⟨-1, rfl, by omega, by omega⟩
  · rw [if_neg h, w64 (x := left - (x.f0.size : Int) - (x.f1.size : Int)) (by omega) (by omega)]
    by_cases h2 : left - (x.f0.size : Int) - (x.f1.size : Int) < 0
    · rw [if_pos h2]
      exact ⟨-1, rfl, by omega, by omega⟩
    · rw [if_neg h2]
      exact ⟨_, rfl, by omega, fun _ => by omega⟩
theorem rdFL (l : List S77) (i : Nat) (h : i < l.length) : rd_T77 l (i : Int) = l[i] := by simp [rd_T77, List.getD_eq_getElem?_getD, h]
theorem rdFI (l : List S78) (i : Nat) (h : i < l.length) : rd_T78 l (i : Int) = l[i] := by simp [rd_T78, List.getD_eq_getElem?_getD, h]
theorem szFieldS_loop (l : List S77) (hl : l.length ≤ 1048576) (hg : ∀ x ∈ l, good77 x) : ∀ (d i : Nat) (left : Int), i + d = l.length → 0 ≤ left → left ≤ 1048576 →
    ∃ r, Ev (fun k => laws_szFieldS.l0 k l left (i : Int)) r ∧ r ≤ 1048576 ∧ (0 ≤ r → ∀ x ∈ l.drop i, smallF x) := by
  intro d
  induction d with
  | zero =>
    intro i left h h0 h1
    refine ⟨left, evSucc ?_, h1, fun _ x hx => ?_⟩
    · simp only [laws_szFieldS.l0]
      exact evNeg (by omega) (Ev.now _)
    · rw [List.drop_of_length_le (by omega)] at hx
      simp at hx
  | succ d ih =>
    intro i left h h0 h1
    have hi : i < l.length := by omega
    obtain ⟨r, hr, hb, hs⟩ := szField_is l[i] left ⟨h0, h1⟩ (hg _ (List.getElem_mem hi))
    by_cases hn : r < 0
    · refine ⟨-1, evSucc ?_, by omega, by omega⟩
      simp only [laws_szFieldS.l0]
      rw [rdFL l i hi]
      exact evPos (by omega) (evPos (by omega) (evPut hr (evPos hn (Ev.now _))))
    · obtain ⟨q, hq, hqb, hqs⟩ := ih (i + 1) r (by omega) (by omega) hb
      refine ⟨q, evSucc ?_, hqb, fun h0 x hx => ?_⟩
      · simp only [laws_szFieldS.l0]
        rw [rdFL l i hi, w64succ i (by omega)]
        exact evPos (by omega) (evPos (by omega) (evPut hr (evNeg hn hq)))
      · rw [List.drop_eq_getElem_cons hi, List.mem_cons] at hx
        rcases hx with rfl | hx
        · exact hs (by omega)
        · exact hqs h0 x hx
/-- What is left of 2^20: the list is short, and so are its texts. -/
theorem szFieldS (l : List S77) (left : Int) (h0 : 0 ≤ left) (h1 : left ≤ 1048576) (hm : l.length ≤ maxLen) (hg : ∀ x ∈ l, good77 x) : ∃ r, Ev (fun k => laws_szFieldS.f k l left) r ∧ r ≤ 1048576 ∧ (0 ≤ r → l.length ≤ 1048576 ∧ ∀ x ∈ l, smallF x) := by
  unfold maxLen at hm
  unfold laws_szFieldS.f
  rw [w64 (x := left - (l.length : Int)) (by omega) (by omega)]
  by_cases h : left - (l.length : Int) < 0
  · exact ⟨-1, evPos h (Ev.now _), by omega, by omega⟩
  · obtain ⟨r, hr, hb, hs⟩ := szFieldS_loop l (by omega) hg l.length 0 (left - (l.length : Int)) (by omega) (by omega) (by omega)
    exact ⟨r, evNeg h hr, hb, fun h0 => ⟨by omega, by simpa using hs h0⟩⟩
def small (x : S78) : Prop := x.f0.size ≤ 1048576 ∧ x.f1.size ≤ 1048576
theorem small_map (l : List S77) (h : ∀ x ∈ l, smallF x) : ∀ x ∈ l.map ofField, small x := by
  intro x hx
  obtain ⟨y, hy, rfl⟩ := List.mem_map.1 hx
  exact h y hy
theorem lenD (s : ByteArray) : s.data.toList.length = s.size := by rw [Array.length_toList]; rfl
theorem btL (s : ByteArray) (i : Nat) (h : i < s.data.toList.length) : bt s (i : Int) = ((s.data.toList[i]).toNat : Int) := by
  have h2 : i < s.size := by rw [lenD] at h; exact h
  have e := bt_at s (i : Int) (by simpa using h2)
  rw [← e]
  rfl

/-! which are valid -/
def charP (b : UInt8) : Bool := decide (33 ≤ b.toNat ∧ b.toNat ≤ 126 ∧ ¬ (65 ≤ b.toNat ∧ b.toNat ≤ 90))
def signP (b : UInt8) : Bool := !([0, 10, 13] : List UInt8).contains b
def nameP (s : ByteArray) : Bool := s.data.toList.all charP
def valP (s : ByteArray) : Bool := s.data.toList.all signP
def fieldP (n v : ByteArray) : Bool := decide (1 ≤ n.size ∧ n.size ≤ 64 ∧ v.size ≤ 1024) && (nameP n && valP v)
theorem signIff (b : UInt8) : signP b = decide (¬ (b.toNat = 0) ∧ ¬ (b.toNat = 10) ∧ ¬ (b.toNat = 13)) := by
  have e : ∀ c : UInt8, (b = c) ↔ b.toNat = c.toNat := fun c => UInt8.toNat_inj.symm
  unfold signP
  rw [Bool.eq_iff_iff]
  simp only [List.contains_cons, List.contains_nil, Bool.or_false, Bool.not_eq_true', Bool.or_eq_false_iff, beq_eq_false_iff_ne, ne_eq, decide_eq_true_eq, e]
  exact Iff.rfl
theorem valS_loop (n v : ByteArray) (hv : v.size ≤ 100000000) : ∀ (d i : Nat), i + d = v.data.toList.length → Ev (fun k => spec_l14FieldOK.l1 k (i : Int) n v) ((v.data.toList.drop i).all signP) := by
  have hL := lenD v
  intro d
  induction d with
  | zero =>
    intro i h
    refine evSucc ?_
    simp only [spec_l14FieldOK.l1]
    rw [List.drop_of_length_le (by omega)]
    exact evNeg (by omega) (Ev.now _)
  | succ d ih =>
    intro i h
    have hi : i < v.data.toList.length := by omega
    refine evSucc ?_
    simp only [spec_l14FieldOK.l1]
    rw [btL v i hi, List.drop_eq_getElem_cons hi, List.all_cons, w64succ i (by omega)]
    refine evPos (by omega) (evPos (by omega) (evSplit (fun h1 => evNow ?_) (fun h1 => evSplit (fun h2 => evNow ?_) (fun h2 => evSplit (fun h3 => evNow ?_) (fun h3 => ?_)))))
    · rw [signIff, decide_eq_false (by omega)]; rfl
    · rw [signIff, decide_eq_false (by omega)]; rfl
    · rw [signIff, decide_eq_false (by omega)]; rfl
    · rw [signIff, decide_eq_true (by omega), Bool.true_and]
      exact ih (i + 1) (by omega)
theorem nameS_loop (n v : ByteArray) (hn : n.size ≤ 100000000) (hv : v.size ≤ 100000000) : ∀ (d i : Nat), i + d = n.data.toList.length → Ev (fun k => spec_l14FieldOK.l0 k (i : Int) n v) ((n.data.toList.drop i).all charP && valP v) := by
  have hL := lenD n
  intro d
  induction d with
  | zero =>
    intro i h
    refine evSucc ?_
    simp only [spec_l14FieldOK.l0]
    rw [List.drop_of_length_le (by omega)]
    refine evNeg (by omega) ?_
    exact valS_loop n v hv v.data.toList.length 0 (by omega)
  | succ d ih =>
    intro i h
    have hi : i < n.data.toList.length := by omega
    refine evSucc ?_
    simp only [spec_l14FieldOK.l0]
    rw [btL n i hi, List.drop_eq_getElem_cons hi, List.all_cons, w64succ i (by omega)]
    have good : charP (n.data.toList[i]) = true → Ev (fun k => spec_l14FieldOK.l0 k ((i + 1 : Nat) : Int) n v) (charP (n.data.toList[i]) && ((n.data.toList.drop (i + 1)).all charP) && valP v) := by
      intro hc
      rw [hc, Bool.true_and]
      exact ih (i + 1) (by omega)
    refine evPos (by omega) (evPos (by omega) (evSplit (fun h1 => evNow ?_) (fun h1 => evSplit (fun h2 => evNow ?_) (fun h2 => evSplit (fun h3 => evSplit (fun h4 => evNow ?_) (fun h4 => good ?_)) (fun h3 => good ?_)))))
    · rw [show charP (n.data.toList[i]) = false from decide_eq_false (by omega)]; rfl
    · rw [show charP (n.data.toList[i]) = false from decide_eq_false (by omega)]; rfl
    · rw [show charP (n.data.toList[i]) = false from decide_eq_false (by omega)]; rfl
    · exact decide_eq_true (by omega)
    · exact decide_eq_true (by omega)
theorem fieldS (n v : ByteArray) : Ev (fun k => spec_l14FieldOK.f k n v) (fieldP n v) := by
  have bad : ∀ q, q = false → Ev (fun k => spec_l14FieldOK.j0 k true n v) q := by
    intro q hq
    refine evSucc ?_
    simp only [spec_l14FieldOK.j0]
    exact evPos (by first | rfl | trivial) (evNow hq.symm)
  unfold spec_l14FieldOK.f fieldP
  refine evSplit (fun h1 => bad _ ?_) (fun h1 => evSplit (fun h2 => bad _ ?_) (fun h2 => ?_))
  · rw [decide_eq_false (by omega)]; rfl
  · rw [decide_eq_false (by omega)]; rfl
  · by_cases h3 : v.size ≤ 1024
    · rw [decide_eq_false (show ¬ (v.size : Int) > 1024 by omega), decide_eq_true (by omega), Bool.true_and]
      refine evSucc ?_
      simp only [spec_l14FieldOK.j0]
      exact evNeg (by simp) (nameS_loop n v (by omega) (by omega) n.data.toList.length 0 (by omega))
    · rw [decide_eq_true (show (v.size : Int) > 1024 by omega), decide_eq_false (by omega)]
      exact bad _ rfl
theorem anyIdx (chars : List UInt8) : ∀ l : List UInt8, Go.Lib.containsAny l chars = l.any fun b => chars.contains b := by
  intro l
  unfold Go.Lib.containsAny
  induction l with
  | nil => rfl
  | cons b l ih =>
    have hg := Go.Lib.indexAny_ge chars l
    rw [Go.Lib.indexAny, List.any_cons]
    cases hb : chars.contains b
    · simp only [Bool.false_eq_true, if_false, Bool.false_or]
      rw [← ih]
      by_cases he : Go.Lib.indexAny l chars = -1
      · rw [he]; simp
      · rw [if_neg (by simpa using he)]
        exact decide_eq_decide.2 (by omega)
    · simp
theorem valI (v : ByteArray) : impl_valueOK.f v = some (decide (v.size ≤ 1024) && valP v) := by
  unfold impl_valueOK.f strings_ContainsAny.f
  by_cases h : v.size ≤ 1024
  · rw [if_pos (by omega), if_pos ⟨by decide, by decide, by omega, by decide⟩]
    simp only [Option.bind_some]
    rw [decide_eq_true h, Bool.true_and, anyIdx]
    congr 1
    unfold valP
    generalize v.data.toList = l
    induction l with
    | nil => rfl
    | cons b l ih => rw [List.any_cons, List.all_cons, ← ih, signP, Bool.not_or]
  · rw [if_neg (by omega), decide_eq_false h]
    rfl
theorem nameI_loop (n v : ByteArray) (hn : n.size ≤ 100000000) : ∀ (d i : Nat), i + d = n.data.toList.length → Ev (fun k => impl_fieldOK.l0 k (n.size : Int) (i : Int) n v) ((n.data.toList.drop i).all charP && (decide (v.size ≤ 1024) && valP v)) := by
  have hL := lenD n
  intro d
  induction d with
  | zero =>
    intro i h
    refine evSucc ?_
    simp only [impl_fieldOK.l0, valI]
    rw [List.drop_of_length_le (by omega)]
    exact evNeg (by omega) (evPut rfl (Ev.now _))
  | succ d ih =>
    intro i h
    have hi : i < n.data.toList.length := by omega
    refine evSucc ?_
    simp only [impl_fieldOK.l0]
    rw [btL n i hi, List.drop_eq_getElem_cons hi, List.all_cons, w64succ i (by omega)]
    have good : charP (n.data.toList[i]) = true → Ev (fun k => impl_fieldOK.l0 k (n.size : Int) ((i + 1 : Nat) : Int) n v) (charP (n.data.toList[i]) && ((n.data.toList.drop (i + 1)).all charP) && (decide (v.size ≤ 1024) && valP v)) := by
      intro hc
      rw [hc, Bool.true_and]
      exact ih (i + 1) (by omega)
    refine evPos (by omega) (evPos (by omega) (evPos (by omega) (evSplit (fun h1 => evNow ?_) (fun h1 => evSplit (fun h2 => evNow ?_) (fun h2 => evSplit (fun h3 => evSplit (fun h4 => evNow ?_) (fun h4 => good ?_)) (fun h3 => good ?_))))))
    · rw [show charP (n.data.toList[i]) = false from decide_eq_false (by omega)]; rfl
    · rw [show charP (n.data.toList[i]) = false from decide_eq_false (by omega)]; rfl
    · rw [show charP (n.data.toList[i]) = false from decide_eq_false (by omega)]; rfl
    · exact decide_eq_true (by omega)
    · exact decide_eq_true (by omega)
theorem fieldI (n v : ByteArray) : Ev (fun k => impl_fieldOK.f k n v) (fieldP n v) := by
  have bad : ∀ q, q = false → Ev (fun k => impl_fieldOK.j0 k true n v) q := by
    intro q hq
    refine evSucc ?_
    simp only [impl_fieldOK.j0]
    exact evPos (by first | rfl | trivial) (evNow hq.symm)
  unfold impl_fieldOK.f fieldP
  refine evSplit (fun h1 => bad _ ?_) (fun h1 => ?_)
  · rw [decide_eq_false (by omega)]; rfl
  · by_cases h2 : n.size ≤ 64
    · rw [decide_eq_false (show ¬ (n.size : Int) > 64 by omega)]
      refine evSucc ?_
      simp only [impl_fieldOK.j0]
      refine evNeg (by simp) (evCast (nameI_loop n v (by omega) n.data.toList.length 0 (by omega)) ?_)
      rw [List.drop_zero]
      show (nameP n && (decide (v.size ≤ 1024) && valP v)) = _
      by_cases h3 : v.size ≤ 1024
      · rw [decide_eq_true h3, decide_eq_true (by omega), Bool.true_and, Bool.true_and]
      · rw [decide_eq_false h3, decide_eq_false (by omega)]; simp
    · rw [decide_eq_true (show (n.size : Int) > 64 by omega), decide_eq_false (by omega)]
      exact bad _ rfl

/-! ### from 1 to most bytes, all from lo to hi -/
def lettersP (v : ByteArray) (most lo hi : Int) : Bool := v.data.toList.all (fun b => decide (lo ≤ (b.toNat : Int) ∧ (b.toNat : Int) ≤ hi)) && decide (1 ≤ v.size ∧ (v.size : Int) ≤ most)
theorem lettersI_loop (v : ByteArray) (most lo hi : Int) (hv : v.size ≤ 100000000) : ∀ (d i : Nat), i + d = v.data.toList.length →
    Ev (fun k => impl_letters.l0 k v most lo hi (v.size : Int) (i : Int)) ((v.data.toList.drop i).all (fun b => decide (lo ≤ (b.toNat : Int) ∧ (b.toNat : Int) ≤ hi)) && decide (1 ≤ v.size ∧ (v.size : Int) ≤ most)) := by
  have hL := lenD v
  intro d
  induction d with
  | zero =>
    intro i h
    refine evSucc ?_
    simp only [impl_letters.l0]
    rw [List.drop_of_length_le (by omega)]
    refine evNeg (by omega) (evSplit (fun h1 => evNow ?_) (fun h1 => evNow ?_))
    · rw [List.all_nil, Bool.true_and]
      exact decide_eq_decide.2 ⟨fun h => ⟨by omega, h⟩, fun h => h.2⟩
    · rw [decide_eq_false (by omega)]; simp
  | succ d ih =>
    intro i h
    have hi : i < v.data.toList.length := by omega
    refine evSucc ?_
    simp only [impl_letters.l0]
    rw [btL v i hi, List.drop_eq_getElem_cons hi, List.all_cons, w64succ i (by omega)]
    refine evPos (by omega) (evPos (by omega) (evPos (by omega) (evSplit (fun h1 => evNow ?_) (fun h1 => evSplit (fun h2 => evNow ?_) (fun h2 => ?_)))))
    · rw [decide_eq_false (by omega)]; rfl
    · rw [decide_eq_false (by omega)]; rfl
    · rw [decide_eq_true (by omega), Bool.true_and]
      exact ih (i + 1) (by omega)
theorem lettersI (v : ByteArray) (most lo hi : Int) (hv : v.size ≤ 100000000) : Ev (fun k => impl_letters.f k v most lo hi) (lettersP v most lo hi) := by
  unfold impl_letters.f lettersP
  exact evCast (lettersI_loop v most lo hi hv v.data.toList.length 0 (by omega)) (by rw [List.drop_zero])

/-! ### the length that a list of fields tells -/
def lenVal (v : ByteArray) : Option Nat := if 1 ≤ v.size ∧ v.size ≤ 9 then Go.Lib.decFrom 0 v.data.toList else none
def nameCL : List UInt8 := [99, 111, 110, 116, 101, 110, 116, 45, 108, 101, 110, 103, 116, 104]
def stI : Option Nat → Int
  | none => -1
  | some m => (m : Int)
def lenGo : List S78 → Option Nat → Int × Int
  | [], st => (stI st, 0)
  | f :: r, st => if f.f0.toList = nameCL then (if st.isSome = true then (0, 17) else match lenVal f.f1 with | some m => lenGo r (some m) | none => (0, 17)) else lenGo r st
theorem decAll : ∀ (l : List UInt8) (acc : Nat), (Go.Lib.decFrom acc l).isSome = l.all (fun b => decide ((48 : Int) ≤ (b.toNat : Int) ∧ (b.toNat : Int) ≤ 57))
  | [], _ => rfl
  | b :: r, acc => by
    rw [List.all_cons, Go.Lib.decFrom]
    unfold Go.Lib.digitVal
    by_cases h : 48 ≤ b.toNat ∧ b.toNat ≤ 57
    · rw [if_pos h, decide_eq_true (by omega), Bool.true_and]
      exact decAll r _
    · rw [if_neg h, decide_eq_false (by omega)]
      rfl
theorem lenLetters (v : ByteArray) : lettersP v 9 48 57 = (lenVal v).isSome := by
  unfold lettersP lenVal
  rw [← decAll _ 0]
  by_cases h : 1 ≤ v.size ∧ v.size ≤ 9
  · rw [if_pos h, decide_eq_true (by omega), Bool.and_true]
  · rw [if_neg h, decide_eq_false (by omega), Bool.and_false]
    rfl
theorem lenAtoi (v : ByteArray) (m : Nat) (h : lenVal v = some m) : strconv_Atoi.f v = some ((m : Int), none) := by
  unfold lenVal at h
  by_cases hc : 1 ≤ v.size ∧ v.size ≤ 9
  · rw [if_pos hc] at h
    unfold strconv_Atoi.f
    rw [if_pos (by omega)]
    have hL := lenD v
    have ha : Go.Lib.atoi v.data.toList = some (m : Int) := by
      cases hl : v.data.toList with
      | nil => rw [hl] at hL; simp at hL; omega
      | cons b r =>
        rw [hl] at h
        have hb : 48 ≤ b.toNat ∧ b.toNat ≤ 57 := by
          have := decAll (b :: r) 0
          rw [h, List.all_cons] at this
          have h2 := (Bool.and_eq_true_iff.1 this.symm).1
          have h3 := of_decide_eq_true h2
          omega
        have n1 : (b == 45) = false := beq_eq_false_iff_ne.2 (fun e => by rw [e] at hb; exact absurd hb.1 (by decide))
        have n2 : (b == 43) = false := beq_eq_false_iff_ne.2 (fun e => by rw [e] at hb; exact absurd hb.1 (by decide))
        rw [Go.Lib.atoi, n1, n2]
        simp only [Bool.false_eq_true, if_false]
        rw [Go.Lib.decNat, List.isEmpty_cons]
        simp only [Bool.false_eq_true, if_false, h, Option.map_some]
    rw [ha]
  · rw [if_neg hc] at h
    exact absurd h (by simp)
theorem lenI_loop (l : List S78) (hl : l.length ≤ 64) (hs : ∀ x ∈ l, small x) : ∀ (d i : Nat) (st : Option Nat), i + d = l.length → Ev (fun k => impl_LengthOf.l0 k (stI st) st.isSome l (l.length : Int) (i : Int)) (lenGo (l.drop i) st) := by
  intro d
  induction d with
  | zero =>
    intro i st h
    refine evSucc ?_
    simp only [impl_LengthOf.l0]
    rw [List.drop_of_length_le (by omega)]
    exact evNeg (by omega) (Ev.now _)
  | succ d ih =>
    intro i st h
    have hi : i < l.length := by omega
    have hv := (hs _ (List.getElem_mem hi)).2
    refine evSucc ?_
    simp only [impl_LengthOf.l0]
    rw [rdFI l i hi, List.drop_eq_getElem_cons hi, lenGo, w64succ i (by omega)]
    refine evPos (by omega) (evPos (by omega) (evPos (by omega) (evSplit (fun h1 => ?_) (fun h1 => ?_))))
    · rw [if_pos (show _ = nameCL from h1)]
      refine evSplit (fun h2 => evNow (by rw [if_pos h2])) (fun h2 => ?_)
      rw [if_neg h2]
      have hst : st = none := by cases st with | none => rfl | some m => exact absurd rfl h2
      subst hst
      refine evBind (evCast (lettersI (l[i]).f1 9 48 57 (by omega)) rfl) ?_
      rw [lenLetters]
      cases hm : lenVal (l[i]).f1 with
      | none => exact evNeg (by simp) (Ev.now _)
      | some m =>
        refine evPos (by simp) (evPut (lenAtoi _ m hm) ?_)
        exact ih (i + 1) (some m) (by omega)
    · rw [if_neg (show ¬ (_ = nameCL) from h1)]
      exact ih (i + 1) st (by omega)
theorem lenI (l : List S78) (hs : ∀ x ∈ l, small x) : Ev (fun k => impl_LengthOf.f k l) (if l.length ≤ 64 then lenGo l none else (0, 4)) := by
  unfold impl_LengthOf.f
  by_cases h : l.length ≤ 64
  · rw [if_pos h]
    exact evNeg (by omega) (evCast (lenI_loop l h hs l.length 0 none (by omega)) (by rw [List.drop_zero]))
  · rw [if_neg h]
    exact evPos (by omega) (Ev.now _)
theorem lenS_digits (l : List S78) (x5 : Int) (v : ByteArray) (hv : v.size ≤ 9) (r : Int × Int) : ∀ (d i acc : Nat), i + d = v.data.toList.length → acc < 10 ^ i →
    (∀ m : Nat, Go.Lib.decFrom acc (v.data.toList.drop i) = some m → Ev (fun k => spec_LengthOf.l0 k l (m : Int) (wrap64 (x5 + 1))) r) → (Go.Lib.decFrom acc (v.data.toList.drop i) = none → r = (0, 17)) →
    Ev (fun k => spec_LengthOf.l1 k l (acc : Int) x5 v (i : Int)) r := by
  have hL := lenD v
  intro d
  induction d with
  | zero =>
    intro i acc h ha h1 h2
    refine evSucc ?_
    simp only [spec_LengthOf.l1]
    rw [List.drop_of_length_le (by omega)] at h1
    exact evNeg (by omega) (h1 acc rfl)
  | succ d ih =>
    intro i acc h ha h1 h2
    have hi : i < v.data.toList.length := by omega
    refine evSucc ?_
    simp only [spec_LengthOf.l1]
    rw [List.drop_eq_getElem_cons hi, Go.Lib.decFrom] at h1 h2
    unfold Go.Lib.digitVal at h1 h2
    rw [btL v i hi, w64succ i (by omega)]
    have hp : 10 ^ i ≤ 10 ^ 8 := Nat.pow_le_pow_right (by omega) (by omega)
    have hps : 10 ^ (i + 1) = 10 ^ i * 10 := Nat.pow_succ ..
    have hb : (v.data.toList[i]).toNat < 256 := (v.data.toList[i]).toNat_lt
    refine evPos (by omega) (evPos (by omega) (evSplit (fun h3 => evNow ?_) (fun h3 => evSplit (fun h4 => evNow ?_) (fun h4 => ?_))))
    · rw [if_neg (by omega)] at h2
      exact (h2 rfl).symm
    · rw [if_neg (by omega)] at h2
      exact (h2 rfl).symm
    · rw [if_pos (by omega)] at h1 h2
      have e : wrap64 (wrap64 (10 * (acc : Int)) + (((v.data.toList[i]).toNat : Int) - 48) % 256) = ((acc * 10 + ((v.data.toList[i]).toNat - 48) : Nat) : Int) := by
        rw [w64 (x := 10 * (acc : Int)) (by omega) (by omega), w64 (by omega) (by omega)]
        omega
      rw [e]
      exact ih (i + 1) _ (by omega) (by omega) h1 h2
theorem lenS_loop (l : List S78) (hl : l.length ≤ 64) (hs : ∀ x ∈ l, small x) : ∀ (d i : Nat) (st : Option Nat), i + d = l.length → Ev (fun k => spec_LengthOf.l0 k l (stI st) (i : Int)) (lenGo (l.drop i) st) := by
  intro d
  induction d with
  | zero =>
    intro i st h
    refine evSucc ?_
    simp only [spec_LengthOf.l0]
    rw [List.drop_of_length_le (by omega)]
    exact evNeg (by omega) (Ev.now _)
  | succ d ih =>
    intro i st h
    have hi : i < l.length := by omega
    have hv := (hs _ (List.getElem_mem hi)).2
    refine evSucc ?_
    simp only [spec_LengthOf.l0]
    rw [rdFI l i hi, List.drop_eq_getElem_cons hi, lenGo]
    have bad : Ev (fun k => spec_LengthOf.j1 k l (i : Int) (l[i]).f1 true) (0, 17) := by
      refine evSucc ?_
      simp only [spec_LengthOf.j1]
      exact evPos (by first | rfl | trivial) (Ev.now _)
    refine evPos (by omega) (evPos (by omega) (evSplit (fun h1 => ?_) (fun h1 => ?_)))
    · rw [if_pos (show _ = nameCL from h1)]
      cases st with
      | some m => exact evPos (by simp only [stI]; omega) bad
      | none =>
        refine evNeg (by simp [stI]) ?_
        rw [if_neg (by simp)]
        by_cases h2 : (l[i]).f1.size < 1
        · refine evPos (by omega) ?_
          rw [lenVal, if_neg (by omega)]
          exact bad
        · refine evNeg (by omega) ?_
          by_cases h3 : (l[i]).f1.size ≤ 9
          · rw [decide_eq_false (by omega)]
            refine evSucc ?_
            simp only [spec_LengthOf.j1]
            refine evNeg (by simp) ?_
            have e : lenVal (l[i]).f1 = Go.Lib.decFrom 0 (l[i]).f1.data.toList := by rw [lenVal, if_pos (by omega)]
            rw [e]
            refine lenS_digits l (i : Int) (l[i]).f1 h3 _ (l[i]).f1.data.toList.length 0 0 (by omega) (by decide) ?_ ?_
            · intro m hm
              rw [List.drop_zero] at hm
              rw [hm, w64succ i (by omega)]
              exact ih (i + 1) (some m) (by omega)
            · intro hm
              rw [List.drop_zero] at hm
              rw [hm]
          · rw [decide_eq_true (by omega), lenVal, if_neg (by omega)]
            exact bad
    · rw [if_neg (show ¬ (_ = nameCL) from h1), w64succ i (by omega)]
      exact ih (i + 1) st (by omega)
theorem lenS (l : List S78) (hs : ∀ x ∈ l, small x) : Ev (fun k => spec_LengthOf.f k l) (if l.length ≤ 64 then lenGo l none else (0, 4)) := by
  unfold spec_LengthOf.f
  by_cases h : l.length ≤ 64
  · rw [if_pos h]
    exact evNeg (by omega) (evCast (lenS_loop l h hs l.length 0 none (by omega)) (by rw [List.drop_zero]))
  · rw [if_neg h]
    exact evPos (by omega) (Ev.now _)

/-! ### texts without a blank at their ends; plain fields; lists of them -/
theorem ext_list (v : ByteArray) (a b : Nat) : (v.extract a b).toList = (v.data.toList.drop a).take (b - a) := by
  rw [Go.Lib.toList_data, ByteArray.data_extract, Array.toList_extract, List.extract_eq_take_drop]
def trimP (v : ByteArray) : Bool := decide (v.size = 0 ∨ (bt v 0 ≠ 32 ∧ bt v ((v.size : Int) - 1) ≠ 32))
theorem one32 : (⟨#[32]⟩ : ByteArray).size = 1 := rfl
theorem l32 : (⟨#[32]⟩ : ByteArray).toList = [32] := by rw [Go.Lib.toList_data]
theorem beq32 (b : UInt8) : ([b] == ([32] : List UInt8)) = decide ((b.toNat : Int) = 32) := by
  rw [Bool.eq_iff_iff, beq_iff_eq, decide_eq_true_eq]
  constructor
  · intro h
    rw [List.cons.injEq] at h
    rw [h.1]
    rfl
  · intro h
    have : b = 32 := UInt8.toNat_inj.1 (by show b.toNat = 32; omega)
    rw [this]
theorem hasPre (v : ByteArray) : strings_HasPrefix.f v (⟨#[32]⟩ : ByteArray) = some (decide (1 ≤ v.size ∧ bt v 0 = 32)) := by
  have hL := lenD v
  unfold strings_HasPrefix.f stringslite_HasPrefix.f
  rw [one32]
  by_cases h : 1 ≤ v.size
  · rw [if_pos (by omega), if_pos (by omega), if_pos (by omega), l32, ext_list]
    have hb := btL v 0 (by omega)
    rw [show ((0 : Nat) : Int) = (0 : Int) from rfl] at hb
    rw [hb]
    simp only [Option.bind_some]
    congr 1
    have e : ((v.data.toList.drop 0).take (((1 : Nat) : Int).toNat - 0)) = [v.data.toList[0]] := by
      rw [List.drop_eq_getElem_cons (show 0 < v.data.toList.length by omega)]
      rfl
    rw [e, beq32]
    exact decide_eq_decide.2 ⟨fun q => ⟨h, q⟩, fun q => q.2⟩
  · rw [if_neg (by omega), decide_eq_false (by omega)]
    rfl
theorem hasSuf (v : ByteArray) (hv : v.size ≤ 100000000) : strings_HasSuffix.f v (⟨#[32]⟩ : ByteArray) = some (decide (1 ≤ v.size ∧ bt v ((v.size : Int) - 1) = 32)) := by
  have hL := lenD v
  unfold strings_HasSuffix.f stringslite_HasSuffix.f
  rw [one32]
  by_cases h : 1 ≤ v.size
  · rw [w64 (x := (v.size : Int) - ((1 : Nat) : Int)) (by omega) (by omega), if_pos (by omega), if_pos (by omega), if_pos (by omega), l32, ext_list]
    have hb := btL v (v.size - 1) (by omega)
    rw [show ((v.size - 1 : Nat) : Int) = (v.size : Int) - 1 from by omega] at hb
    rw [hb]
    simp only [Option.bind_some]
    congr 1
    have e : ((v.data.toList.drop ((v.size : Int) - ((1 : Nat) : Int)).toNat).take (v.size - ((v.size : Int) - ((1 : Nat) : Int)).toNat)) = [v.data.toList[v.size - 1]'(by omega)] := by
      rw [show ((v.size : Int) - ((1 : Nat) : Int)).toNat = v.size - 1 from by omega, List.drop_eq_getElem_cons (show v.size - 1 < v.data.toList.length by omega), List.drop_of_length_le (by omega)]
      rw [show v.size - (v.size - 1) = 1 from by omega]
      rfl
    rw [e, beq32]
    exact decide_eq_decide.2 ⟨fun q => ⟨h, q⟩, fun q => q.2⟩
  · rw [if_neg (by omega), decide_eq_false (by omega)]
    rfl
theorem trimI (v : ByteArray) (hv : v.size ≤ 100000000) : impl_trimmed.f v = some (trimP v) := by
  unfold impl_trimmed.f
  rw [hasPre, hasSuf v hv]
  simp only [Option.bind_some]
  unfold trimP
  by_cases h1 : 1 ≤ v.size ∧ bt v 0 = 32
  · rw [if_pos (decide_eq_true h1), decide_eq_false (by omega)]
  · rw [if_neg (by simpa using h1)]
    by_cases h2 : 1 ≤ v.size ∧ bt v ((v.size : Int) - 1) = 32
    · rw [decide_eq_true h2, decide_eq_false (by omega)]
      rfl
    · rw [decide_eq_false h2, decide_eq_true (by omega)]
      rfl
def valueP (v : ByteArray) : Bool := decide (v.size ≤ 1024) && valP v
theorem fieldX (v : ByteArray) : fieldP (⟨#[120]⟩ : ByteArray) v = valueP v := by
  unfold fieldP valueP
  have e1 : (⟨#[120]⟩ : ByteArray).size = 1 := rfl
  have e2 : nameP (⟨#[120]⟩ : ByteArray) = true := by decide
  rw [e1, e2, Bool.true_and]
  congr 1
  exact decide_eq_decide.2 ⟨fun q => q.2.2, fun q => ⟨by omega, by omega, q⟩⟩
theorem fieldValue (n v : ByteArray) (h : fieldP n v = true) : valueP v = true ∧ 1 ≤ n.size ∧ n.size ≤ 64 := by
  unfold fieldP at h
  rw [Bool.and_eq_true, Bool.and_eq_true, decide_eq_true_eq] at h
  unfold valueP
  rw [h.2.2, decide_eq_true h.1.2.2]
  exact ⟨rfl, h.1.1, h.1.2.1⟩
theorem valueS (v : ByteArray) (hv : v.size ≤ 100000000) : Ev (fun k => spec_l15Value.f k v) (valueP v && trimP v) := by
  unfold spec_l15Value.f
  refine evBind (evCast (fieldS (⟨#[120]⟩ : ByteArray) v) (fieldX v)) ?_
  cases hq : valueP v with
  | false => exact evNeg (by simp) (evNow (by rw [Bool.false_and]))
  | true =>
    rw [Bool.true_and]
    refine evPos rfl ?_
    unfold trimP
    by_cases h0 : v.size = 0
    · rw [decide_eq_true (Or.inl h0)]
      exact evPos (by omega) (Ev.now _)
    · refine evNeg (by omega) (evPos (by omega) ?_)
      rw [w64 (x := (v.size : Int) - 1) (by omega) (by omega)]
      by_cases h1 : bt v 0 = 32
      · rw [decide_eq_false (by omega)]
        exact evPos h1 (Ev.now _)
      · refine evNeg h1 (evPos (by omega) (evPos (by omega) (evNow ?_)))
        by_cases h2 : bt v ((v.size : Int) - 1) = 32
        · rw [decide_eq_false (by omega), h2]
          rfl
        · rw [decide_eq_true (by omega)]
          exact bne_iff_ne.2 h2
theorem valueI (v : ByteArray) : impl_valueOK.f v = some (valueP v) := valI v
def isHop (n : ByteArray) : Bool := n.toList == ([99, 111, 110, 110, 101, 99, 116, 105, 111, 110] : List UInt8) || (n.toList == ([107, 101, 101, 112, 45, 97, 108, 105, 118, 101] : List UInt8) || (n.toList == ([116, 114, 97, 110, 115, 102, 101, 114, 45, 101, 110, 99, 111, 100, 105, 110, 103] : List UInt8) || n.toList == ([117, 112, 103, 114, 97, 100, 101] : List UInt8)))
def plainP (n v : ByteArray) : Bool := fieldP n v && (decide (bt n 0 ≠ 58) && (trimP v && !isHop n))
theorem plainS (n v : ByteArray) (hv : v.size ≤ 100000000) : Ev (fun k => spec_l15Plain.f k n v) (plainP n v) := by
  unfold spec_l15Plain.f plainP
  refine evBind (fieldS n v) ?_
  cases hq : fieldP n v with
  | false => exact evNeg (by simp) (Ev.now _)
  | true =>
    obtain ⟨hv1, hn, _⟩ := fieldValue n v hq
    rw [Bool.true_and]
    refine evPos rfl (evPos (by omega) (evSplit (fun h => evNow ?_) (fun h => evBind (valueS v hv) ?_)))
    · rw [decide_eq_false (by omega)]; rfl
    · rw [hv1, decide_eq_true h, Bool.true_and, Bool.true_and]
      cases ht : trimP v with
      | false => exact evNeg (by simp) (Ev.now _)
      | true =>
        rw [Bool.true_and]
        unfold isHop
        refine evPos rfl (evSplit (fun h1 => evNow ?_) (fun h1 => evSplit (fun h2 => evNow ?_) (fun h2 => evSplit (fun h3 => evNow ?_) (fun h3 => evNow ?_))))
        · rw [beq_iff_eq.2 h1]; rfl
        · rw [beq_iff_eq.2 h2, Bool.true_or, Bool.or_true]; rfl
        · rw [beq_iff_eq.2 h3, Bool.true_or, Bool.or_true, Bool.or_true]; rfl
        · rw [beq_eq_false_iff_ne.2 h1, beq_eq_false_iff_ne.2 h2, beq_eq_false_iff_ne.2 h3, Bool.false_or, Bool.false_or, Bool.false_or]; rfl
theorem plainI_j (n v : ByteArray) (hv : v.size ≤ 100000000) (x : Bool) : Ev (fun k => impl_plainOK.j0 k x n v) (!x && (fieldP n v && (decide (bt n 0 ≠ 58) && trimP v))) := by
  refine evSucc ?_
  simp only [impl_plainOK.j0]
  cases x with
  | true => exact evPos rfl (Ev.now _)
  | false =>
    refine evNeg (by simp) (evBind (fieldI n v) ?_)
    rw [Bool.not_false, Bool.true_and]
    cases hq : fieldP n v with
    | false => exact evNeg (by simp) (Ev.now _)
    | true =>
      obtain ⟨_, hn, _⟩ := fieldValue n v hq
      rw [Bool.true_and]
      refine evPos rfl (evPos (by omega) (evSplit (fun h => evNow ?_) (fun h => evPut (trimI v hv) (evNow ?_))))
      · rw [decide_eq_false (by omega)]; rfl
      · rw [decide_eq_true h, Bool.true_and]
theorem plainI (n v : ByteArray) (hv : v.size ≤ 100000000) : Ev (fun k => impl_plainOK.f k n v) (plainP n v) := by
  have e : plainP n v = (!isHop n && (fieldP n v && (decide (bt n 0 ≠ 58) && trimP v))) := by
    unfold plainP
    cases fieldP n v <;> cases decide (bt n 0 ≠ 58) <;> cases trimP v <;> cases isHop n <;> rfl
  rw [e]
  unfold impl_plainOK.f isHop
  refine evSplit (fun h1 => evCast (plainI_j n v hv _) ?_) (fun h1 => evSplit (fun h2 => evCast (plainI_j n v hv _) ?_) (fun h2 => evSplit (fun h3 => evCast (plainI_j n v hv _) ?_) (fun h3 => evCast (plainI_j n v hv _) ?_)))
  · rw [beq_iff_eq.2 h1, Bool.true_or]
  · rw [beq_iff_eq.2 h2, Bool.true_or, Bool.or_true]
  · rw [beq_iff_eq.2 h3, Bool.true_or, Bool.or_true, Bool.or_true]
  · rw [beq_eq_false_iff_ne.2 h1, beq_eq_false_iff_ne.2 h2, beq_eq_false_iff_ne.2 h3, Bool.false_or, Bool.false_or, Bool.false_or]
def fieldsP (l : List S78) : Bool := decide (l.length ≤ 60) && (l.all (fun x => plainP x.f0 x.f1) && (lenGo l none).2 == 0)
theorem fieldsS_loop (l : List S78) (hl : l.length ≤ 60) (hs : ∀ x ∈ l, small x) : ∀ (d i : Nat), i + d = l.length → Ev (fun k => spec_l15FieldsOK.l0 k l (i : Int)) ((l.drop i).all (fun x => plainP x.f0 x.f1) && (lenGo l none).2 == 0) := by
  intro d
  induction d with
  | zero =>
    intro i h
    refine evSucc ?_
    simp only [spec_l15FieldsOK.l0]
    rw [List.drop_of_length_le (by omega)]
    exact evNeg (by omega) (evBind (evCast (lenS l hs) (by rw [if_pos (by omega)])) (Ev.now _))
  | succ d ih =>
    intro i h
    have hi : i < l.length := by omega
    have hv := (hs _ (List.getElem_mem hi)).2
    refine evSucc ?_
    simp only [spec_l15FieldsOK.l0]
    rw [rdFI l i hi, List.drop_eq_getElem_cons hi, List.all_cons, w64succ i (by omega)]
    refine evPos (by omega) (evPos (by omega) (evBind (plainS _ _ (by omega)) ?_))
    cases hp : plainP (l[i]).f0 (l[i]).f1 with
    | false => exact evNeg (by simp) (Ev.now _)
    | true => exact evPos rfl (evCast (ih (i + 1) (by omega)) (by rw [Bool.true_and]))
theorem fieldsS (l : List S78) (hs : ∀ x ∈ l, small x) : Ev (fun k => spec_l15FieldsOK.f k l) (fieldsP l) := by
  unfold spec_l15FieldsOK.f fieldsP
  by_cases h : l.length ≤ 60
  · rw [decide_eq_true h, Bool.true_and]
    exact evNeg (by omega) (evCast (fieldsS_loop l h hs l.length 0 (by omega)) (by rw [List.drop_zero]))
  · rw [decide_eq_false h]
    exact evPos (by omega) (Ev.now _)
theorem fieldsI_idx (l : List S78) (hs : ∀ x ∈ l, small x) : ∀ i : Nat, ∃ j, Ev (fun k => impl_fieldsOK.idx k l i) j ∧ (j < 0 ↔ l.all (fun x => plainP x.f0 x.f1) = true) := by
  induction l with
  | nil => intro i; exact ⟨-1, Ev.now _, by simp⟩
  | cons x l ih =>
    intro i
    have hv := (hs x (List.mem_cons_self)).2
    obtain ⟨j, hj, hj2⟩ := ih (fun y hy => hs y (List.mem_cons_of_mem _ hy)) (i + 1)
    cases hp : plainP x.f0 x.f1 with
    | false =>
      refine ⟨(i : Int), ?_, by rw [List.all_cons, hp]; simp⟩
      exact evBind (evCast (plainI x.f0 x.f1 (by omega)) hp) (evNeg (by simp) (Ev.now _))
    | true =>
      refine ⟨j, ?_, by rw [List.all_cons, hp, Bool.true_and]; exact hj2⟩
      exact evBind (evCast (plainI x.f0 x.f1 (by omega)) hp) (evPos rfl hj)
theorem fieldsI (l : List S78) (hs : ∀ x ∈ l, small x) : Ev (fun k => impl_fieldsOK.f k l) (fieldsP l) := by
  unfold impl_fieldsOK.f fieldsP
  by_cases h : l.length ≤ 60
  · rw [decide_eq_true h, Bool.true_and]
    obtain ⟨j, hj, hj2⟩ := fieldsI_idx l hs 0
    refine evNeg (by omega) (evBind hj ?_)
    by_cases hn : j < 0
    · rw [hj2.1 hn, Bool.true_and]
      exact evNeg (by omega) (evBind (evCast (lenI l hs) (by rw [if_pos (by omega)])) (Ev.now _))
    · rw [Bool.eq_false_iff.2 (fun e => hn (hj2.2 e)), Bool.false_and]
      exact evPos (by omega) (Ev.now _)
  · rw [decide_eq_false h]
    exact evPos (by omega) (Ev.now _)

theorem lettersS_loop (v : ByteArray) (most lo hi : Int) (hv : v.size ≤ 100000000) : ∀ (d i : Nat), i + d = v.data.toList.length →
    Ev (fun k => spec_l15Within.l0 k v most lo hi (i : Int)) ((v.data.toList.drop i).all (fun b => decide (lo ≤ (b.toNat : Int) ∧ (b.toNat : Int) ≤ hi)) && decide (1 ≤ v.size ∧ (v.size : Int) ≤ most)) := by
  have hL := lenD v
  intro d
  induction d with
  | zero =>
    intro i h
    refine evSucc ?_
    simp only [spec_l15Within.l0]
    rw [List.drop_of_length_le (by omega)]
    refine evNeg (by omega) (evSplit (fun h1 => evNow ?_) (fun h1 => evNow ?_))
    · rw [List.all_nil, Bool.true_and]
      exact decide_eq_decide.2 ⟨fun h => ⟨by omega, h⟩, fun h => h.2⟩
    · rw [decide_eq_false (by omega)]; simp
  | succ d ih =>
    intro i h
    have hi : i < v.data.toList.length := by omega
    refine evSucc ?_
    simp only [spec_l15Within.l0]
    rw [btL v i hi, List.drop_eq_getElem_cons hi, List.all_cons, w64succ i (by omega)]
    refine evPos (by omega) (evPos (by omega) (evSplit (fun h1 => evNow ?_) (fun h1 => evSplit (fun h2 => evNow ?_) (fun h2 => ?_))))
    · rw [decide_eq_false (by omega)]; rfl
    · rw [decide_eq_false (by omega)]; rfl
    · rw [decide_eq_true (by omega), Bool.true_and]
      exact ih (i + 1) (by omega)
theorem lettersS (v : ByteArray) (most lo hi : Int) (hv : v.size ≤ 100000000) : Ev (fun k => spec_l15Within.f k v most lo hi) (lettersP v most lo hi) := by
  unfold spec_l15Within.f lettersP
  exact evCast (lettersS_loop v most lo hi hv v.data.toList.length 0 (by omega)) (by rw [List.drop_zero])
theorem lettersSize (v : ByteArray) (most lo hi : Int) (h : lettersP v most lo hi = true) : 1 ≤ v.size ∧ (v.size : Int) ≤ most := by
  unfold lettersP at h
  rw [Bool.and_eq_true, decide_eq_true_eq] at h
  exact h.2

/-! ### requests -/
def requestP (m s a p : ByteArray) (l : List S78) : Bool :=
  lettersP m 16 65 90 && (lettersP s 16 97 122 && ((valueP a && trimP a) && (lettersP p 200 33 126 && (decide (bt p 0 = 47) && fieldsP l))))
theorem requestS (m s a p : ByteArray) (l : List S78) (hm : m.size ≤ 100000000) (hs : s.size ≤ 100000000) (ha : a.size ≤ 100000000) (hp : p.size ≤ 100000000) (hl : ∀ x ∈ l, small x) :
    Ev (fun k => spec_l15RequestOK.f k m s a p l) (requestP m s a p l) := by
  unfold spec_l15RequestOK.f requestP
  refine evBind (lettersS m 16 65 90 hm) ?_
  cases lettersP m 16 65 90 with
  | false => exact evNeg (by simp) (Ev.now _)
  | true =>
    rw [Bool.true_and]
    refine evPos rfl (evBind (lettersS s 16 97 122 hs) ?_)
    cases lettersP s 16 97 122 with
    | false => exact evNeg (by simp) (Ev.now _)
    | true =>
      rw [Bool.true_and]
      refine evPos rfl (evBind (valueS a ha) ?_)
      cases valueP a && trimP a with
      | false => exact evNeg (by simp) (Ev.now _)
      | true =>
        rw [Bool.true_and]
        refine evPos rfl (evBind (lettersS p 200 33 126 hp) ?_)
        cases h : lettersP p 200 33 126 with
        | false => exact evNeg (by simp) (Ev.now _)
        | true =>
          have := lettersSize _ _ _ _ h
          rw [Bool.true_and]
          refine evPos rfl (evPos (by omega) (evSplit (fun h2 => ?_) (fun h2 => ?_)))
          · rw [decide_eq_true h2, Bool.true_and]
            exact evBind (fieldsS l hl) (Ev.now _)
          · rw [decide_eq_false h2]
            exact Ev.now _
theorem requestI (m s a p : ByteArray) (l : List S78) (hm : m.size ≤ 100000000) (hs : s.size ≤ 100000000) (ha : a.size ≤ 100000000) (hp : p.size ≤ 100000000) (hl : ∀ x ∈ l, small x) :
    Ev (fun k => impl_requestOK.f k m s a p l) (requestP m s a p l) := by
  unfold impl_requestOK.f requestP impl_methodOK.f impl_pathOK.f
  refine evBind (evBind (lettersI m 16 65 90 hm) (Ev.now _)) ?_
  cases lettersP m 16 65 90 with
  | false => exact evNeg (by simp) (Ev.now _)
  | true =>
    rw [Bool.true_and]
    refine evPos rfl (evBind (lettersI s 16 97 122 hs) ?_)
    cases lettersP s 16 97 122 with
    | false => exact evNeg (by simp) (Ev.now _)
    | true =>
      rw [Bool.true_and]
      refine evPos rfl (evPut (valueI a) ?_)
      cases valueP a with
      | false => exact evNeg (by simp) (Ev.now _)
      | true =>
        rw [Bool.true_and]
        refine evPos rfl (evPut (trimI a ha) ?_)
        cases trimP a with
        | false => exact evNeg (by simp) (Ev.now _)
        | true =>
          rw [Bool.true_and]
          have hpath : Ev (fun k => (impl_letters.f k p 200 33 126).bind fun t => (if t = true then (if 0 < (p.size : Int) then (some ((bt p 0) == 47)) else (none)) else (some false))) (lettersP p 200 33 126 && decide (bt p 0 = 47)) := by
            refine evBind (lettersI p 200 33 126 hp) ?_
            cases h : lettersP p 200 33 126 with
            | false => exact evNeg (by simp) (Ev.now _)
            | true =>
              have := lettersSize _ _ _ _ h
              exact evPos rfl (evPos (by omega) (evNow (by rw [Bool.true_and]; rfl)))
          refine evPos rfl (evBind hpath ?_)
          rw [← Bool.and_assoc]
          cases lettersP p 200 33 126 && decide (bt p 0 = 47) with
          | false => exact evNeg (by simp) (Ev.now _)
          | true =>
            rw [Bool.true_and]
            exact evPos rfl (evBind (fieldsI l hl) (Ev.now _))

/-! ### the heads of a list of fields -/
def colonP (n : ByteArray) : Bool := decide (1 ≤ n.size ∧ bt n 0 = 58)
theorem hasColon (v : ByteArray) : strings_HasPrefix.f v (⟨#[58]⟩ : ByteArray) = some (colonP v) := by
  have hL := lenD v
  unfold strings_HasPrefix.f stringslite_HasPrefix.f colonP
  rw [show (⟨#[58]⟩ : ByteArray).size = 1 from rfl]
  by_cases h : 1 ≤ v.size
  · rw [if_pos (by omega), if_pos (by omega), if_pos (by omega), show (⟨#[58]⟩ : ByteArray).toList = [58] from by rw [Go.Lib.toList_data], ext_list]
    have hb := btL v 0 (by omega)
    rw [show ((0 : Nat) : Int) = (0 : Int) from rfl] at hb
    rw [hb]
    simp only [Option.bind_some]
    congr 1
    have e : ((v.data.toList.drop 0).take (((1 : Nat) : Int).toNat - 0)) = [v.data.toList[0]] := by
      rw [List.drop_eq_getElem_cons (show 0 < v.data.toList.length by omega)]
      rfl
    rw [e]
    generalize v.data.toList[0] = b
    rw [Bool.eq_iff_iff, beq_iff_eq, decide_eq_true_eq, List.cons.injEq]
    constructor
    · intro q
      rw [q.1]
      exact ⟨h, rfl⟩
    · intro q
      have : b = 58 := UInt8.toNat_inj.1 (by show b.toNat = 58; omega)
      exact ⟨this, rfl⟩
  · rw [if_neg (by omega), decide_eq_false (by omega)]
    rfl
def psP : List S78 → List (ByteArray × ByteArray) → List S78 → Option (List (ByteArray × ByteArray) × List S78)
  | [], hs, rs => some (hs, rs)
  | x :: l, hs, rs => if colonP x.f0 = false then psP l hs (rs ++ [x]) else if (lookF hs x.f0).isSome = true then none else if rs.length > 0 then none else psP l (hs ++ [(x.f0, x.f1)]) rs
theorem small_max {x : S78} (h : small x) : x.f0.size ≤ maxLen ∧ x.f1.size ≤ maxLen := by
  unfold small at h
  unfold maxLen
  omega
theorem psGo_is (l : List S78) (hl : ∀ x ∈ l, small x) : ∀ hs rs, psGo l hs rs = some (psP l hs rs) := by
  induction l with
  | nil => intro hs rs; rfl
  | cons x l ih =>
    intro hs rs
    have ih := ih (fun y hy => hl y (List.mem_cons_of_mem _ hy))
    rw [psGo, psP, if_pos (small_max (hl x List.mem_cons_self)), hasColon]
    simp only [Option.bind_some]
    split
    · exact ih _ _
    · split
      · rfl
      · split
        · rfl
        · exact ih _ _
def anyColon (l : List S78) : Bool := l.any (fun x => colonP x.f0)
theorem ps_rest : ∀ (t : List S78) (hs : List (ByteArray × ByteArray)) (rs : List S78), 0 < rs.length → psP t hs rs = if anyColon t = true then none else some (hs, rs ++ t)
  | [], hs, rs, _ => by simp [psP, anyColon]
  | x :: t, hs, rs, h => by
    rw [psP, anyColon, List.any_cons]
    cases hc : colonP x.f0 with
    | false =>
      rw [if_pos rfl, ps_rest t hs (rs ++ [x]) (by simp), Bool.false_or, List.append_assoc]
      rfl
    | true =>
      rw [if_neg (by simp), Bool.true_or, if_pos rfl]
      split
      · rfl
      · rfl
def headColon : List S78 → Bool
  | [] => false
  | x :: _ => colonP x.f0
theorem ps_none (t : List S78) (hs : List (ByteArray × ByteArray)) (h : headColon t = false) : psP t hs [] = if anyColon t = true then none else some (hs, t) := by
  cases t with
  | nil => simp [psP, anyColon]
  | cons x t =>
    have hc : colonP x.f0 = false := h
    have e : anyColon (x :: t) = anyColon t := by unfold anyColon; rw [List.any_cons, hc, Bool.false_or]
    rw [psP, if_pos hc, ps_rest t hs ([] ++ [x]) (by simp), e]
    rfl
theorem ps_grow : ∀ (t : List S78) (hs : List (ByteArray × ByteArray)) (rs : List S78) (r : List (ByteArray × ByteArray) × List S78), psP t hs rs = some r → hs.length ≤ r.1.length
  | [], hs, rs, r, h => by
    rw [psP] at h
    obtain rfl := Option.some.inj h
    exact Nat.le_refl _
  | x :: t, hs, rs, r, h => by
    rw [psP] at h
    split at h
    · exact ps_grow t _ _ r h
    · split at h
      · cases h
      · split at h
        · cases h
        · have := ps_grow t _ _ r h
          simp at this
          omega
def headsN : List S78 → Nat
  | [] => 0
  | x :: l => if colonP x.f0 = true then headsN l + 1 else 0
theorem headsS_loop (l : List S78) (hl : l.length ≤ 64) : ∀ (d i : Nat), i + d = l.length → Ev (fun k => spec_l15Heads.l0 k l (i : Int)) ((i + headsN (l.drop i) : Nat) : Int) := by
  intro d
  induction d with
  | zero =>
    intro i h
    refine evSucc ?_
    simp only [spec_l15Heads.l0]
    rw [List.drop_of_length_le (by omega)]
    exact evNeg (by omega) (Ev.now _)
  | succ d ih =>
    intro i h
    have hi : i < l.length := by omega
    refine evSucc ?_
    simp only [spec_l15Heads.l0]
    rw [rdFI l i hi, List.drop_eq_getElem_cons hi, headsN, w64succ i (by omega)]
    unfold colonP
    refine evPos (by omega) (evPos (by omega) (evSplit (fun h1 => evPos (by omega) (evSplit (fun h2 => ?_) (fun h2 => evNow ?_))) (fun h1 => evNow ?_)))
    · rw [if_pos (decide_eq_true ⟨by omega, h2⟩)]
      exact evCast (ih (i + 1) (by omega)) (by omega)
    · rw [if_neg (by simpa using fun _ => h2)]; rfl
    · rw [if_neg (by simp; omega)]; rfl
theorem headsS (l : List S78) (hl : l.length ≤ 64) : Ev (fun k => spec_l15Heads.f k l) (headsN l : Int) := by
  unfold spec_l15Heads.f
  exact evCast (headsS_loop l hl l.length 0 (by omega)) (by simp)
theorem plain_colon {n v : ByteArray} (h : plainP n v = true) : colonP n = false := by
  unfold plainP at h
  simp only [Bool.and_eq_true, decide_eq_true_eq] at h
  unfold colonP
  exact decide_eq_false (fun q => h.2.1 q.2)
theorem fields_colon {l : List S78} (h : fieldsP l = true) : anyColon l = false := by
  unfold fieldsP at h
  simp only [Bool.and_eq_true] at h
  unfold anyColon
  rw [List.any_eq_false]
  intro x hx
  rw [plain_colon (List.all_eq_true.1 h.2.1 x hx)]
  simp
theorem anyHead {l : List S78} (h : anyColon l = false) : headColon l = false := by
  cases l with
  | nil => rfl
  | cons x l =>
    unfold anyColon at h
    rw [List.any_cons, Bool.or_eq_false_iff] at h
    exact h.1

/-! the marks on fields -/
theorem markT_loop : ∀ (d : Nat) (n : Int) (s : ByteArray), 0 ≤ n → n ≤ 10000000000 → n < 10 ^ d → s.size + d ≤ 100 → ∃ t, Ev (fun k => laws_markText.l0 k n s) t := by
  intro d
  induction d with
  | zero =>
    intro n s h0 hb h1 h2
    refine ⟨(⟨#[109]⟩ : ByteArray) ++ s, evSucc ?_⟩
    simp only [laws_markText.l0]
    exact evNeg (by omega) (evPos (by omega) (Ev.now _))
  | succ d ih =>
    intro n s h0 hb h1 h2
    by_cases hn : n > 0
    · have e1 : Int.tdiv n 10 = n / 10 := Int.tdiv_eq_ediv_of_nonneg h0
      have hs1 : ∀ x : Int, (strOfNums [x]).size = 1 := fun x => rfl
      have hw : wrap64 (n / 10) = n / 10 := w64 (by omega) (by omega)
      obtain ⟨t, ht⟩ := ih (n / 10) (strOfNums [(wrap64 (48 + (Int.tmod n 10))) % 256] ++ s) (by omega) (by omega) (by rw [Int.pow_succ] at h1; omega) (by rw [ByteArray.size_append, hs1]; omega)
      refine ⟨t, evSucc ?_⟩
      simp only [laws_markText.l0]
      rw [e1, hw]
      exact evPos hn (evPut rfl (evPos (by rw [hs1]; omega) ht))
    · refine ⟨(⟨#[109]⟩ : ByteArray) ++ s, evSucc ?_⟩
      simp only [laws_markText.l0]
      exact evNeg hn (evPos (by omega) (Ev.now _))
/-- What a mark reads as: one text for each number. -/
def MarkT (v : Int) (t : ByteArray) : Prop := Ev (fun k => laws_markText.f k v) t
theorem markT (v : Int) (h0 : 0 ≤ v) (h1 : v ≤ 9000000000) : ∃ t, MarkT v t := by
  unfold MarkT laws_markText.f
  by_cases h : v ≤ 0
  · exact ⟨_, evPos h (Ev.now _)⟩
  · obtain ⟨t, ht⟩ := markT_loop 10 v ⟨#[]⟩ h0 (by omega) (by omega) (by show 0 + 10 ≤ 100; omega)
    exact ⟨t, evNeg h ht⟩
def MarkedF (m : Int) (j : Nat) (x : S78) : Prop := MarkT (m + 2 * j) x.f0 ∧ MarkT (m + 2 * j + 1) x.f1
theorem markF_loop (m : Int) (n : Nat) (h0 : 0 ≤ m) (hm : m + 2 * n < 1000000000) : ∀ (d i : Nat) (l : List S78), i + d = n → l.length = n → (∀ (j : Nat) (h : j < l.length), j < i → MarkedF m j (l[j]'h)) →
    ∃ l' : List S78, l'.length = n ∧ (∀ (j : Nat) (h : j < l'.length), MarkedF m j (l'[j]'h)) ∧ Ev (fun k => laws_markFieldS.l0 k l (m + 2 * i) (i : Int)) (m + 2 * n, l') := by
  intro d
  induction d with
  | zero =>
    intro i l h hl hj
    refine ⟨l, hl, fun j hj' => hj j hj' (by omega), evSucc ?_⟩
    simp only [laws_markFieldS.l0]
    refine evNeg (by omega) (evNow ?_)
    have : i = n := by omega
    rw [this]
  | succ d ih =>
    intro i l h hl hj
    have hi : i < l.length := by omega
    obtain ⟨t1, h1⟩ := markT (m + 2 * i) (by omega) (by omega)
    obtain ⟨t2, h2⟩ := markT (m + 2 * i + 1) (by omega) (by omega)
    obtain ⟨l', hl', hj', e⟩ := ih (i + 1) (l.set i ⟨t1, t2⟩) (by omega) (by simpa using hl) (by
      intro j hj1 hlt
      by_cases hji : j = i
      · subst hji
        simp only [List.getElem_set_self]
        exact ⟨h1, h2⟩
      · rw [List.getElem_set_ne (by omega)]
        exact hj j (by simpa using hj1) (by omega))
    refine ⟨l', hl', hj', evSucc ?_⟩
    simp only [laws_markFieldS.l0]
    refine evPos (by omega) (evBind h1 (evPos (by omega) (evPut rfl ?_)))
    rw [w64 (x := m + 2 * (i : Int) + 1) (by omega) (by omega), w64 (x := m + 2 * (i : Int) + 1 + 1) (by omega) (by omega), w64succ i (by omega), Int.toNat_natCast]
    refine evBind h2 ?_
    have e1 : rd_T78 (l.set i ⟨t1, (rd_T78 l (i : Int)).f1⟩) (i : Int) = ⟨t1, (rd_T78 l (i : Int)).f1⟩ := by
      rw [rdFI _ i (by simpa using hi)]
      simp
    rw [e1, List.set_set]
    have e2 : m + 2 * (i : Int) + 1 + 1 = m + 2 * ((i + 1 : Nat) : Int) := by omega
    rw [e2]
    exact e
theorem markF (l : List S78) (m : Int) (h0 : 0 ≤ m) (hm : m + 2 * l.length < 1000000000) :
    ∃ l' : List S78, l'.length = l.length ∧ (∀ (j : Nat) (h : j < l'.length), MarkedF m j (l'[j]'h)) ∧ Ev (fun k => laws_markFieldS.f k l m) (m + 2 * l.length, l') := by
  obtain ⟨l', h1, h2, h3⟩ := markF_loop m l.length h0 hm l.length 0 l (by omega) rfl (fun j _ h => by omega)
  refine ⟨l', h1, h2, ?_⟩
  unfold laws_markFieldS.f
  simpa using h3
theorem heldF_loop (m : Int) (l : List S78) (h0 : 0 ≤ m) (hm : m + 2 * l.length < 1000000000) (hj : ∀ (j : Nat) (h : j < l.length), MarkedF m j (l[j]'h)) :
    ∀ (d i : Nat), i + d = l.length → Ev (fun k => laws_heldFieldS.l0 k l (m + 2 * i) (i : Int)) (m + 2 * l.length) := by
  intro d
  induction d with
  | zero =>
    intro i h
    refine evSucc ?_
    simp only [laws_heldFieldS.l0]
    refine evNeg (by omega) (evNow ?_)
    have : i = l.length := by omega
    rw [this]
  | succ d ih =>
    intro i h
    have hi : i < l.length := by omega
    obtain ⟨h1, h2⟩ := hj i hi
    refine evSucc ?_
    simp only [laws_heldFieldS.l0]
    rw [rdFI l i hi, w64 (x := m + 2 * (i : Int) + 1) (by omega) (by omega), w64 (x := m + 2 * (i : Int) + 1 + 1) (by omega) (by omega), w64succ i (by omega)]
    refine evPos (by omega) (evPos (by omega) (evBind h1 (evPos rfl (evBind h2 (evPos rfl ?_)))))
    have e2 : m + 2 * (i : Int) + 1 + 1 = m + 2 * ((i + 1 : Nat) : Int) := by omega
    rw [e2]
    exact ih (i + 1) (by omega)
theorem heldF (m : Int) (l : List S78) (h0 : 0 ≤ m) (hm : m + 2 * l.length < 1000000000) (hj : ∀ (j : Nat) (h : j < l.length), MarkedF m j (l[j]'h)) : Ev (fun k => laws_heldFieldS.f k l m) (m + 2 * l.length) := by
  unfold laws_heldFieldS.f
  have := heldF_loop m l h0 hm hj l.length 0 (by omega)
  simpa using this

/-! ### a request out of a list of fields -/
abbrev kM : List UInt8 := [58, 109, 101, 116, 104, 111, 100]
abbrev kS : List UInt8 := [58, 115, 99, 104, 101, 109, 101]
abbrev kP : List UInt8 := [58, 112, 97, 116, 104]
abbrev kA : List UInt8 := [58, 97, 117, 116, 104, 111, 114, 105, 116, 121]
def bM : ByteArray := ⟨#[58, 109, 101, 116, 104, 111, 100]⟩
def bS : ByteArray := ⟨#[58, 115, 99, 104, 101, 109, 101]⟩
def bP : ByteArray := ⟨#[58, 112, 97, 116, 104]⟩
def bA : ByteArray := ⟨#[58, 97, 117, 116, 104, 111, 114, 105, 116, 121]⟩
def badR : ReqR := (⟨#[]⟩, ⟨#[]⟩, ⟨#[]⟩, ⟨#[]⟩, [], 17)
def spGo : List S78 → ByteArray → ByteArray → ByteArray → ByteArray → List S78 → ReqR
  | [], m, s, a, p, t => if requestP m s a p t = true then (m, s, a, p, t, 0) else badR
  | x :: q, m, s, a, p, t =>
    if x.f0.toList = kM then (if m.toList = [] then (if x.f1.toList = [] then badR else spGo q x.f1 s a p t) else badR)
    else if x.f0.toList = kS then (if s.toList = [] then (if x.f1.toList = [] then badR else spGo q m x.f1 a p t) else badR)
    else if x.f0.toList = kP then (if p.toList = [] then (if x.f1.toList = [] then badR else spGo q m s a x.f1 t) else badR)
    else if x.f0.toList = kA then (if a.toList = [] then (if x.f1.toList = [] then badR else spGo q m s x.f1 p t) else badR)
    else badR
theorem reqOfS_loop (l : List S78) (n : Nat) (hn : n ≤ l.length) (hl : l.length ≤ 64) (hs : ∀ x ∈ l, small x) : ∀ (d i : Nat) (m s a p : ByteArray), i + d = n → m.size ≤ 1048576 → s.size ≤ 1048576 → a.size ≤ 1048576 → p.size ≤ 1048576 →
    Ev (fun k => spec_RequestOf.l0 k l (n : Int) (i : Int) m s a p) (spGo ((l.take n).drop i) m s a p (l.drop n)) := by
  intro d
  induction d with
  | zero =>
    intro i m s a p h b1 b2 b3 b4
    have hi : i = n := by omega
    subst hi
    refine evSucc ?_
    simp only [spec_RequestOf.l0]
    rw [show (l.take i).drop i = [] from List.drop_of_length_le (by rw [List.length_take]; omega), spGo]
    refine evNeg (by omega) (evPut rfl (evPos (by omega) (evPos (by omega) (evPut rfl (evPos (by simp; omega) (evPut rfl ?_))))))
    rw [Int.toNat_natCast, List.nil_append]
    have ht : ∀ x ∈ l.drop i, small x := fun x hx => hs x (List.mem_of_mem_drop hx)
    refine evBind (requestS m s a p (l.drop i) (by omega) (by omega) (by omega) (by omega) ht) ?_
    cases requestP m s a p (l.drop i) with
    | false => exact evNeg (by simp) (Ev.now _)
    | true => exact evPos rfl (Ev.now _)
  | succ d ih =>
    intro i m s a p h b1 b2 b3 b4
    have hi : i < l.length := by omega
    have hx := (hs _ (List.getElem_mem hi)).2
    refine evSucc ?_
    simp only [spec_RequestOf.l0]
    have e : (l.take n).drop i = l[i] :: (l.take n).drop (i + 1) := by
      rw [List.drop_eq_getElem_cons (by simp; omega), List.getElem_take]
    rw [rdFI l i hi, e, spGo, w64succ i (by omega)]
    refine evPos (by omega) (evPos (by omega) (evPos (by omega) ?_))
    by_cases h1 : (l[i]).f0.toList = kM
    · rw [if_pos h1]
      refine evPos h1 ?_
      by_cases g1 : m.toList = []
      · rw [if_pos g1]
        refine evPos g1 ?_
        by_cases g2 : (l[i]).f1.toList = []
        · rw [if_pos g2]; exact evPos g2 (Ev.now _)
        · rw [if_neg g2]; exact evNeg g2 (ih (i + 1) _ _ _ _ (by omega) (by omega) b2 b3 b4)
      · rw [if_neg g1]; exact evNeg g1 (Ev.now _)
    · rw [if_neg h1]
      refine evNeg h1 ?_
      by_cases h2 : (l[i]).f0.toList = kS
      · rw [if_pos h2]
        refine evPos h2 ?_
        by_cases g1 : s.toList = []
        · rw [if_pos g1]
          refine evPos g1 ?_
          by_cases g2 : (l[i]).f1.toList = []
          · rw [if_pos g2]; exact evPos g2 (Ev.now _)
          · rw [if_neg g2]; exact evNeg g2 (ih (i + 1) _ _ _ _ (by omega) b1 (by omega) b3 b4)
        · rw [if_neg g1]; exact evNeg g1 (Ev.now _)
      · rw [if_neg h2]
        refine evNeg h2 ?_
        by_cases h3 : (l[i]).f0.toList = kP
        · rw [if_pos h3]
          refine evPos h3 ?_
          by_cases g1 : p.toList = []
          · rw [if_pos g1]
            refine evPos g1 ?_
            by_cases g2 : (l[i]).f1.toList = []
            · rw [if_pos g2]; exact evPos g2 (Ev.now _)
            · rw [if_neg g2]; exact evNeg g2 (ih (i + 1) _ _ _ _ (by omega) b1 b2 b3 (by omega))
          · rw [if_neg g1]; exact evNeg g1 (Ev.now _)
        · rw [if_neg h3]
          refine evNeg h3 ?_
          by_cases h4 : (l[i]).f0.toList = kA
          · rw [if_pos h4]
            refine evPos h4 ?_
            by_cases g1 : a.toList = []
            · rw [if_pos g1]
              refine evPos g1 ?_
              by_cases g2 : (l[i]).f1.toList = []
              · rw [if_pos g2]; exact evPos g2 (Ev.now _)
              · rw [if_neg g2]; exact evNeg g2 (ih (i + 1) _ _ _ _ (by omega) b1 b2 (by omega) b4)
            · rw [if_neg g1]; exact evNeg g1 (Ev.now _)
          · rw [if_neg h4]
            exact evNeg h4 (Ev.now _)
theorem headsN_le : ∀ l : List S78, headsN l ≤ l.length
  | [] => Nat.le_refl _
  | x :: l => by
    rw [headsN]
    have := headsN_le l
    split <;> simp <;> omega
def reqOfP (l : List S78) : ReqR := if l.length > 64 then (⟨#[]⟩, ⟨#[]⟩, ⟨#[]⟩, ⟨#[]⟩, [], 4) else spGo (l.take (headsN l)) ⟨#[]⟩ ⟨#[]⟩ ⟨#[]⟩ ⟨#[]⟩ (l.drop (headsN l))
theorem reqOfS (l : List S78) (hs : ∀ x ∈ l, small x) : Ev (fun k => spec_RequestOf.f k l) (reqOfP l) := by
  unfold spec_RequestOf.f reqOfP
  by_cases h : l.length > 64
  · rw [if_pos h]
    exact evPos (by omega) (Ev.now _)
  · rw [if_neg h]
    refine evNeg (by omega) (evBind (headsS l (by omega)) ?_)
    have z : (⟨#[]⟩ : ByteArray).size ≤ 1048576 := by decide
    exact evCast (reqOfS_loop l (headsN l) (headsN_le l) (by omega) hs (headsN l) 0 _ _ _ _ (by omega) z z z z) (by rw [List.drop_zero])
/-! the other side -/
def restP (hs : List (ByteArray × ByteArray)) (rs : List S78) : ReqR :=
  if allFine hs = true then (if requestP (getH hs bM) (getH hs bS) (getH hs bA) (getH hs bP) rs = true then (getH hs bM, getH hs bS, getH hs bA, getH hs bP, rs, 0) else badR) else badR
def implRes : Option (List (ByteArray × ByteArray) × List S78) → ReqR
  | none => badR
  | some (hs, rs) => restP hs rs
theorem toList_is {x : ByteArray} {l : List UInt8} : x.toList = l ↔ x = ⟨l.toArray⟩ := by
  rw [Go.Lib.toList_data]
  constructor
  · intro h
    cases x
    congr 1
    exact Array.toList_inj.1 h
  · rintro rfl
    rfl
theorem isM {x : ByteArray} : x.toList = kM ↔ x = bM := toList_is
theorem isS {x : ByteArray} : x.toList = kS ↔ x = bS := toList_is
theorem isP {x : ByteArray} : x.toList = kP ↔ x = bP := toList_is
theorem isA {x : ByteArray} : x.toList = kA ↔ x = bA := toList_is
theorem isE {x : ByteArray} : x.toList = [] ↔ x = ⟨#[]⟩ := toList_is
/-- Every head is known, and none is empty. -/
def FullH (hs : List (ByteArray × ByteArray)) : Prop := ∀ x u, lookF hs x = some u → (x = bM ∨ x = bS ∨ x = bP ∨ x = bA) ∧ u ≠ ⟨#[]⟩
theorem full_fine {hs : List (ByteArray × ByteArray)} (h : FullH hs) : allFine hs = true := by
  refine allFine_of (fun x u hu => ?_)
  obtain ⟨h1, h2⟩ := h x u hu
  unfold reqFine
  rcases h1 with rfl | rfl | rfl | rfl
  · rw [beq_iff_eq.2 (isM.2 rfl)]; rfl
  · rw [beq_iff_eq.2 (isS.2 rfl), Bool.true_or, Bool.or_true]
  · rw [beq_iff_eq.2 (isP.2 rfl), Bool.true_or, Bool.or_true, Bool.or_true]
  · rw [beq_iff_eq.2 (isA.2 rfl), beq_eq_false_iff_ne.2 (fun q => h2 (isE.1 q))]
    simp
theorem lookF_put {hs : List (ByteArray × ByteArray)} {y u : ByteArray} (h : lookF hs y = none) (x : ByteArray) : lookF (hs ++ [(y, u)]) x = if x = y then some u else lookF hs x := by
  rw [← lookF_snoc h]
  by_cases e : x = y
  · subst e
    rw [Go.Proofs.YtkcimmlaoipdkaaDoor.MapF.upd_same, if_pos rfl]
  · rw [Go.Proofs.YtkcimmlaoipdkaaDoor.MapF.upd_other _ _ e, if_neg e]
theorem getH_put {hs : List (ByteArray × ByteArray)} {y u : ByteArray} (h : lookF hs y = none) (x : ByteArray) : getH (hs ++ [(y, u)]) x = if x = y then u else getH hs x := by
  unfold getH
  rw [lookF_put h]
  split <;> rfl
theorem lookF_keep {hs : List (ByteArray × ByteArray)} {x u : ByteArray} (h : lookF hs x = some u) (q : ByteArray × ByteArray) : lookF (hs ++ [q]) x = some u := by
  unfold lookF at h ⊢
  rw [List.find?_append]
  cases hf : hs.find? (fun p => decide (p.1 = x)) with
  | none => rw [hf] at h; cases h
  | some p => rw [hf] at h; simpa using h
theorem ps_keep : ∀ (l : List S78) (hs : List (ByteArray × ByteArray)) (rs : List S78) (r : List (ByteArray × ByteArray) × List S78), psP l hs rs = some r → ∀ x u, lookF hs x = some u → lookF r.1 x = some u
  | [], hs, rs, r, h, x, u, hx => by
    rw [psP] at h
    obtain rfl := Option.some.inj h
    exact hx
  | y :: l, hs, rs, r, h, x, u, hx => by
    rw [psP] at h
    split at h
    · exact ps_keep l _ _ r h x u hx
    · split at h
      · cases h
      · split at h
        · cases h
        · exact ps_keep l _ _ r h x u (lookF_keep hx _)
theorem letters_empty (most lo hi : Int) : lettersP (⟨#[]⟩ : ByteArray) most lo hi = false := by
  unfold lettersP
  rw [decide_eq_false (by rw [show (⟨#[]⟩ : ByteArray).size = 0 from rfl]; omega), Bool.and_false]
/-- A head that is not known, or empty: no request. -/
theorem rest_bad {hs : List (ByteArray × ByteArray)} {rs : List S78} {x u : ByteArray} (h : lookF hs x = some u) (hb : ¬ (x = bM ∨ x = bS ∨ x = bP ∨ x = bA) ∨ u = ⟨#[]⟩) : restP hs rs = badR := by
  unfold restP
  by_cases hf : reqFine x u = true
  · have hx : x = bM ∨ x = bS ∨ x = bP := by
      unfold reqFine at hf
      simp only [Bool.or_eq_true, Bool.and_eq_true, beq_iff_eq, Bool.not_eq_true', beq_eq_false_iff_ne] at hf
      rcases hf with q | q | q | ⟨q, q2⟩
      · exact .inl (isM.1 q)
      · exact .inr (.inl (isS.1 q))
      · exact .inr (.inr (isP.1 q))
      · rcases hb with hb | hb
        · exact absurd (.inr (.inr (.inr (isA.1 q)))) hb
        · exact absurd (isE.2 hb) q2
    have hu : u = ⟨#[]⟩ := by
      rcases hb with hb | hb
      · exact absurd (hx.elim .inl (fun q => q.elim (fun q => .inr (.inl q)) (fun q => .inr (.inr (.inl q))))) hb
      · exact hb
    have hg : getH hs x = ⟨#[]⟩ := by unfold getH; rw [h, hu]; rfl
    have hr : requestP (getH hs bM) (getH hs bS) (getH hs bA) (getH hs bP) rs = false := by
      unfold requestP
      rcases hx with q | q | q
      · rw [q] at hg; rw [hg, letters_empty]; rfl
      · rw [q] at hg; rw [hg, letters_empty, Bool.false_and, Bool.and_false]
      · rw [q] at hg; rw [hg, letters_empty, Bool.false_and, Bool.and_false, Bool.and_false, Bool.and_false]
    rw [hr]
    split <;> rfl
  · rw [allFine_not h (by simpa using hf)]
    rfl
theorem bad_step (x : S78) (l : List S78) (hs : List (ByteArray × ByteArray)) (hc : colonP x.f0 = true) (hb : ¬ (x.f0 = bM ∨ x.f0 = bS ∨ x.f0 = bP ∨ x.f0 = bA) ∨ x.f1 = ⟨#[]⟩ ∨ (lookF hs x.f0).isSome = true) : implRes (psP (x :: l) hs []) = badR := by
  rw [psP, if_neg (by rw [hc]; simp)]
  cases hk : lookF hs x.f0 with
  | some u => rw [if_pos (by simp)]; rfl
  | none =>
    rw [hk] at hb
    rw [if_neg (by simp), if_neg (by simp)]
    cases hp : psP l (hs ++ [(x.f0, x.f1)]) [] with
    | none => rfl
    | some r =>
      have := ps_keep l _ _ r hp x.f0 x.f1 (by rw [lookF_put hk, if_pos rfl])
      obtain ⟨h', t'⟩ := r
      exact rest_bad this (hb.elim .inl (fun q => q.elim .inr (fun q => absurd q (by simp))))
theorem good_step (x : S78) (l : List S78) (hs : List (ByteArray × ByteArray)) (hc : colonP x.f0 = true) (hk : lookF hs x.f0 = none) : psP (x :: l) hs [] = psP l (hs ++ [(x.f0, x.f1)]) [] := by
  rw [psP, if_neg (by rw [hc]; simp), hk, if_neg (by simp), if_neg (by simp)]
theorem full_empty {hs : List (ByteArray × ByteArray)} (h : FullH hs) {y : ByteArray} : getH hs y = ⟨#[]⟩ ↔ lookF hs y = none := by
  unfold getH
  cases hl : lookF hs y with
  | none => simp
  | some u =>
    have := (h y u hl).2
    simp [this]
theorem full_put {hs : List (ByteArray × ByteArray)} (h : FullH hs) {y u : ByteArray} (hk : lookF hs y = none) (hy : y = bM ∨ y = bS ∨ y = bP ∨ y = bA) (hu : u ≠ ⟨#[]⟩) : FullH (hs ++ [(y, u)]) := by
  intro x v hx
  rw [lookF_put hk] at hx
  split at hx
  · rename_i e
    obtain rfl := Option.some.inj hx
    exact ⟨e ▸ hy, hu⟩
  · exact h x v hx
theorem run_same (t : List S78) (ht : headColon t = false) : ∀ (q : List S78) (hs : List (ByteArray × ByteArray)), (∀ x ∈ q, colonP x.f0 = true) → FullH hs → spGo q (getH hs bM) (getH hs bS) (getH hs bA) (getH hs bP) t = implRes (psP (q ++ t) hs []) := by
  intro q
  induction q with
  | nil =>
    intro hs _ hf
    rw [spGo, List.nil_append, ps_none t hs ht]
    cases ha : anyColon t with
    | true =>
      have hr : requestP (getH hs bM) (getH hs bS) (getH hs bA) (getH hs bP) t = false := by
        cases hr : requestP (getH hs bM) (getH hs bS) (getH hs bA) (getH hs bP) t with
        | false => rfl
        | true =>
          unfold requestP at hr
          simp only [Bool.and_eq_true] at hr
          rw [fields_colon hr.2.2.2.2.2] at ha
          cases ha
      rw [hr]
      rfl
    | false =>
      have e : implRes (if false = true then none else some (hs, t)) = restP hs t := rfl
      rw [e]
      unfold restP
      rw [full_fine hf]
      rfl
  | cons x q ih =>
    intro hs hq hf
    have hc := hq x List.mem_cons_self
    have ih := fun hs => ih hs (fun y hy => hq y (List.mem_cons_of_mem _ hy))
    rw [spGo, List.cons_append]

    by_cases h1 : x.f0.toList = kM
    · have e := isM.1 h1
      rw [if_pos h1]
      by_cases g1 : (getH hs bM).toList = []
      · have hk := (full_empty hf).1 (isE.1 g1)
        rw [if_pos g1]
        by_cases g2 : x.f1.toList = []
        · rw [if_pos g2]
          exact (bad_step x _ hs hc (.inr (.inl (isE.1 g2)))).symm
        · rw [if_neg g2, good_step x _ hs hc (by rw [e]; exact hk), ← ih _ (full_put hf (by rw [e]; exact hk) (.inl e) (fun q => g2 (isE.2 q)))]
          rw [e, getH_put hk, getH_put hk, getH_put hk, getH_put hk, if_pos rfl, if_neg (by decide), if_neg (by decide), if_neg (by decide)]
      · rw [if_neg g1]
        refine (bad_step x _ hs hc (.inr (.inr ?_))).symm
        rw [e]
        cases hk : lookF hs bM with
        | none => exact absurd (isE.2 ((full_empty hf).2 hk)) g1
        | some u => rfl
    · rw [if_neg h1]
      by_cases h2 : x.f0.toList = kS
      · have e := isS.1 h2
        rw [if_pos h2]
        by_cases g1 : (getH hs bS).toList = []
        · have hk := (full_empty hf).1 (isE.1 g1)
          rw [if_pos g1]
          by_cases g2 : x.f1.toList = []
          · rw [if_pos g2]
            exact (bad_step x _ hs hc (.inr (.inl (isE.1 g2)))).symm
          · rw [if_neg g2, good_step x _ hs hc (by rw [e]; exact hk), ← ih _ (full_put hf (by rw [e]; exact hk) (.inr (.inl e)) (fun q => g2 (isE.2 q)))]
            rw [e, getH_put hk, getH_put hk, getH_put hk, getH_put hk, if_neg (by decide), if_pos rfl, if_neg (by decide), if_neg (by decide)]
        · rw [if_neg g1]
          refine (bad_step x _ hs hc (.inr (.inr ?_))).symm
          rw [e]
          cases hk : lookF hs bS with
          | none => exact absurd (isE.2 ((full_empty hf).2 hk)) g1
          | some u => rfl
      · rw [if_neg h2]
        by_cases h3 : x.f0.toList = kP
        · have e := isP.1 h3
          rw [if_pos h3]
          by_cases g1 : (getH hs bP).toList = []
          · have hk := (full_empty hf).1 (isE.1 g1)
            rw [if_pos g1]
            by_cases g2 : x.f1.toList = []
            · rw [if_pos g2]
              exact (bad_step x _ hs hc (.inr (.inl (isE.1 g2)))).symm
            · rw [if_neg g2, good_step x _ hs hc (by rw [e]; exact hk), ← ih _ (full_put hf (by rw [e]; exact hk) (.inr (.inr (.inl e))) (fun q => g2 (isE.2 q)))]
              rw [e, getH_put hk, getH_put hk, getH_put hk, getH_put hk, if_neg (by decide), if_neg (by decide), if_neg (by decide), if_pos rfl]
          · rw [if_neg g1]
            refine (bad_step x _ hs hc (.inr (.inr ?_))).symm
            rw [e]
            cases hk : lookF hs bP with
            | none => exact absurd (isE.2 ((full_empty hf).2 hk)) g1
            | some u => rfl
        · rw [if_neg h3]
          by_cases h4 : x.f0.toList = kA
          · have e := isA.1 h4
            rw [if_pos h4]
            by_cases g1 : (getH hs bA).toList = []
            · have hk := (full_empty hf).1 (isE.1 g1)
              rw [if_pos g1]
              by_cases g2 : x.f1.toList = []
              · rw [if_pos g2]
                exact (bad_step x _ hs hc (.inr (.inl (isE.1 g2)))).symm
              · rw [if_neg g2, good_step x _ hs hc (by rw [e]; exact hk), ← ih _ (full_put hf (by rw [e]; exact hk) (.inr (.inr (.inr e))) (fun q => g2 (isE.2 q)))]
                rw [e, getH_put hk, getH_put hk, getH_put hk, getH_put hk, if_neg (by decide), if_neg (by decide), if_pos rfl, if_neg (by decide)]
            · rw [if_neg g1]
              refine (bad_step x _ hs hc (.inr (.inr ?_))).symm
              rw [e]
              cases hk : lookF hs bA with
              | none => exact absurd (isE.2 ((full_empty hf).2 hk)) g1
              | some u => rfl
          · rw [if_neg h4]
            refine (bad_step x _ hs hc (.inl ?_)).symm
            rintro (q | q | q | q)
            · exact h1 (isM.2 q)
            · exact h2 (isS.2 q)
            · exact h3 (isP.2 q)
            · exact h4 (isA.2 q)
theorem heads_colon : ∀ l : List S78, (∀ x ∈ l.take (headsN l), colonP x.f0 = true) ∧ headColon (l.drop (headsN l)) = false
  | [] => ⟨by simp, rfl⟩
  | x :: l => by
    rw [headsN]
    cases hc : colonP x.f0 with
    | false => exact ⟨by simp, hc⟩
    | true =>
      obtain ⟨h1, h2⟩ := heads_colon l
      rw [if_pos rfl]
      refine ⟨?_, h2⟩
      intro y hy
      rw [List.take_succ_cons, List.mem_cons] at hy
      rcases hy with rfl | hy
      · exact hc
      · exact h1 y hy
theorem reqOf_impl (l : List S78) (h : l.length ≤ 64) : reqOfP l = implRes (psP l [] []) := by
  unfold reqOfP
  rw [if_neg (by omega)]
  obtain ⟨h1, h2⟩ := heads_colon l
  have := run_same (l.drop (headsN l)) h2 (l.take (headsN l)) [] h1 (fun x u hx => by cases hx)
  rw [List.take_append_drop] at this
  exact this
def SmallH (hs : List (ByteArray × ByteArray)) : Prop := ∀ q ∈ hs, q.2.size ≤ 1048576
theorem ps_small : ∀ (l : List S78) (hs : List (ByteArray × ByteArray)) (rs : List S78) (r : List (ByteArray × ByteArray) × List S78), (∀ x ∈ l, small x) → SmallH hs → (∀ x ∈ rs, small x) → psP l hs rs = some r → SmallH r.1 ∧ ∀ x ∈ r.2, small x
  | [], hs, rs, r, _, h1, h2, h => by
    rw [psP] at h
    obtain rfl := Option.some.inj h
    exact ⟨h1, h2⟩
  | y :: l, hs, rs, r, hl, h1, h2, h => by
    have hl2 : ∀ x ∈ l, small x := fun x hx => hl x (List.mem_cons_of_mem _ hx)
    have hy := hl y List.mem_cons_self
    rw [psP] at h
    split at h
    · refine ps_small l _ _ r hl2 h1 (fun x hx => ?_) h
      rw [List.mem_append, List.mem_singleton] at hx
      rcases hx with hx | rfl
      · exact h2 x hx
      · exact hy
    · split at h
      · cases h
      · split at h
        · cases h
        · refine ps_small l _ _ r hl2 (fun q hq => ?_) h2 h
          rw [List.mem_append, List.mem_singleton] at hq
          rcases hq with hq | rfl
          · exact h1 q hq
          · exact hy.2
theorem getH_small {hs : List (ByteArray × ByteArray)} (h : SmallH hs) (y : ByteArray) : (getH hs y).size ≤ 100000000 := by
  unfold getH lookF
  cases hf : hs.find? (fun p => decide (p.1 = y)) with
  | none => show (0 : Nat) ≤ _; omega
  | some q =>
    have := h q (List.mem_of_find?_eq_some hf)
    show q.2.size ≤ _
    omega
theorem restI (hs : List (ByteArray × ByteArray)) (rs : List S78) (h1 : SmallH hs) (h2 : ∀ x ∈ rs, small x) : Ev (fun k => reqRest k hs rs) (restP hs rs) := by
  unfold reqRest restP
  cases allFine hs with
  | false => exact evNeg (by simp) (Ev.now _)
  | true =>
    rw [if_pos (show true = true from rfl)]
    refine evPos rfl (evBind (requestI (getH hs bM) (getH hs bS) (getH hs bA) (getH hs bP) rs (getH_small h1 _) (getH_small h1 _) (getH_small h1 _) (getH_small h1 _) h2) ?_)
    cases requestP (getH hs bM) (getH hs bS) (getH hs bA) (getH hs bP) rs with
    | false => exact evNeg (by simp) (Ev.now _)
    | true => exact evPos rfl (Ev.now _)
theorem reqOfI (l : List S78) (hs : ∀ x ∈ l, small x) : Ev (fun k => impl_RequestOf.f k l) (reqOfP l) := by
  by_cases h : l.length > 64
  · unfold impl_RequestOf.f reqOfP
    rw [if_pos h]
    exact evPos h (Ev.now _)
  · rw [reqOf_impl l (by omega)]
    unfold impl_RequestOf.f
    refine evNeg h (evPut (psGo_is l hs [] []) ?_)
    cases hp : psP l [] [] with
    | none => exact Ev.now _
    | some r =>
      obtain ⟨a, b⟩ := ps_small l [] [] r hs (fun q hq => by cases hq) (fun x hx => by cases hx) hp
      obtain ⟨r1, r2⟩ := r
      exact restI r1 r2 a b
theorem spGo_len : ∀ (q : List S78) (m s a p : ByteArray) (t : List S78), (spGo q m s a p t).2.2.2.2.1.length ≤ t.length
  | [], m, s, a, p, t => by
    rw [spGo]
    split
    · exact Nat.le_refl _
    · exact Nat.zero_le _
  | x :: q, m, s, a, p, t => by
    rw [spGo]
    repeat' split
    all_goals first | exact spGo_len q _ _ _ _ t | exact Nat.zero_le _
theorem reqOf_len (l : List S78) : (reqOfP l).2.2.2.2.1.length ≤ l.length := by
  unfold reqOfP
  split
  · exact Nat.zero_le _
  · refine Nat.le_trans (spGo_len _ _ _ _ _ _) ?_
    simp
theorem eqRequest (m s a p : ByteArray) (l : List S78) (hl : l.length < 4611686018427387904) : Ev (fun k => laws_eqRequest.f k m s a p l m s a p l) true := by
  unfold laws_eqRequest.f
  exact evPos rfl (evPos rfl (evPos rfl (evPos rfl (evBind (eqField l hl) (evPos rfl (Ev.now _))))))
theorem markRequest (m s a p : ByteArray) (l : List S78) (q : Int) (h0 : 0 ≤ q) (hm : q + 2 * l.length < 1000000000) :
    ∃ l' : List S78, l'.length = l.length ∧ Ev (fun k => laws_markRequest.f k m s a p l q) (q + 2 * l.length, l') ∧ Ev (fun k => laws_heldRequest.f k m s a p l' q) (q + 2 * l.length) := by
  obtain ⟨l', h1, h2, h3⟩ := markF l q h0 hm
  refine ⟨l', h1, ?_, ?_⟩
  · unfold laws_markRequest.f
    exact evBind h3 (Ev.now _)
  · unfold laws_heldRequest.f
    have := heldF q l' h0 (by omega) h2
    exact evBind this (evNeg (by omega) (evNow (by rw [h1])))
theorem FnExactRequestOf : laws_FnExactRequestOf.Stmt := by
  intro l hx
  obtain ⟨hm, hg⟩ := hx
  refine evEnds ?_
  unfold laws_FnExactRequestOf.f
  obtain ⟨r, hr, _, hb⟩ := szFieldS l 1048576 (by omega) (by omega) hm hg
  refine evBind hr (evSplit (fun _ => Ev.now _) (fun h => ?_))
  obtain ⟨b1, b2⟩ := hb (by omega)
  have t := toField l b1
  have hs := small_map l b2
  have hl : (l.map ofField).length ≤ 1048576 := by simpa using b1
  have gS := reqOfS _ hs
  have gI := reqOfI _ hs
  have gl := reqOf_len (l.map ofField)
  generalize reqOfP (l.map ofField) = g at gS gI gl
  have hgl : g.2.2.2.2.1.length < 4611686018427387904 := by omega
  have hll : (l.map ofField).length < 4611686018427387904 := by omega
  obtain ⟨m1, q1, _, r1⟩ := markF (l.map ofField) 1 (by omega) (by omega)
  obtain ⟨m2, q2, r2, h4⟩ := markRequest g.1 g.2.1 g.2.2.1 g.2.2.2.1 g.2.2.2.2.1 1 (by omega) (by omega)
  refine evBind t (evBind gS (evBind t (evBind gI (evBind (eqRequest _ _ _ _ _ hgl) (evPos rfl (evSucc ?_))))))
  simp only [laws_FnExactRequestOf.j0]
  refine evNeg (by simp) (evBind t (evBind (eqField _ hll) (evPos rfl (evBind r1 (evNeg (by simp only; omega) (evBind (eqRequest _ _ _ _ _ hgl) (evPos rfl (evSucc ?_))))))))
  simp only [laws_FnExactRequestOf.j1]
  refine evNeg (by simp) (evBind r2 (evBind h4 (evNeg (by omega) (evPos rfl (evBind t (evBind gI (evBind (eqRequest _ _ _ _ _ hgl) (evPos rfl (evSucc ?_)))))))))
  simp only [laws_FnExactRequestOf.j2]
  exact evNeg (by simp) (evBind h4 (evNeg (by omega) (evPos rfl (Ev.now _))))

end Go.Proofs.YtkcimmlaoipdkaaDoor.Pure
