/- The program's ResponseFields answers what the reference's ResponseFields answers, in memory of its own, for every response; no condition. -/
import Derived.Test.YtkcimmlaoipdkaaDoorPFnExactResponseFieldsx0
import Derived.Test.YtkcimmlaoipdkaaDoorPFnExactResponseFieldsx1
import Derived.Test.YtkcimmlaoipdkaaDoorPFnExactResponseFieldsx2
import Derived.Test.YtkcimmlaoipdkaaDoorPFnExactResponseFieldsx3
import Derived.Test.YtkcimmlaoipdkaaDoorPFnExactResponseFieldsx4
import Derived.Test.YtkcimmlaoipdkaaDoorPFnExactResponseFieldsx5
import Derived.Test.YtkcimmlaoipdkaaDoorPFnExactResponseFieldsx6
import Derived.Test.YtkcimmlaoipdkaaDoorPFnExactResponseFieldsx7
import Derived.Test.YtkcimmlaoipdkaaDoorPFnExactResponseFieldsx8
import Derived.Test.YtkcimmlaoipdkaaDoorStmtFnExactResponseFields
import Derived.Laws.BitsLemmas
import Derived.Laws.BitsAllLaws
set_option linter.unusedVariables false
set_option linter.unusedSimpArgs false
set_option maxRecDepth 4000
namespace Go.Proofs.YtkcimmlaoipdkaaDoor.Pure
open Go.RowKit Go.Proofs.YtkcimmlaoipdkaaDoor.PFnExactResponseFields Go.Proofs.YtkcimmlaoipdkaaDoorW.PrintWords Go.Proofs.YtkcimmlaoipdkaaDoorW.PrintLast Go.Proofs.YtkcimmlaoipdkaaDoorW.PrintMore

/-! ### tools: what a printed function comes to -/
theorem evSucc {α : Type} {g : Nat → Option α} {r : α} (h : Ev (fun k => g (k + 1)) r) : Ev g r := Ev.step (fun _ => rfl) h
theorem evPos {α : Type} {c : Prop} {dc : Decidable c} {a b : Nat → Option α} {r : α} (h : c) (e : Ev a r) : Ev (fun k => if c then a k else b k) r :=
  Ev.congr (fun _ => if_pos h) e
theorem evNeg {α : Type} {c : Prop} {dc : Decidable c} {a b : Nat → Option α} {r : α} (h : ¬ c) (e : Ev b r) : Ev (fun k => if c then a k else b k) r :=
  Ev.congr (fun _ => if_neg h) e
theorem evSplit {α : Type} {c : Prop} {dc : Decidable c} {a b : Nat → Option α} {r : α} (h : c → Ev a r) (h' : ¬ c → Ev b r) : Ev (fun k => if c then a k else b k) r := by
  by_cases hc : c
  · exact evPos hc (h hc)
  · exact evNeg hc (h' hc)
theorem evBind {α β : Type} {g : Nat → Option α} {f : Nat → α → Option β} {a : α} {r : β} (h : Ev g a) (k : Ev (fun n => f n a) r) : Ev (fun n => (g n).bind (f n)) r := Ev.bind h k
theorem evPut {α β : Type} {o : Option α} {f : Nat → α → Option β} {a : α} {r : β} (h : o = some a) (k : Ev (fun n => f n a) r) : Ev (fun n => o.bind (f n)) r :=
  Ev.congr (fun _ => by rw [h]; rfl) k
theorem evNow {α : Type} {r r' : α} (h : r = r') : Ev (fun _ => some r) r' := h ▸ Ev.now r
theorem evOf {α : Type} {o : Option α} {r : α} (h : o = some r) : Ev (fun _ => o) r := ⟨0, fun _ _ => h⟩
theorem evEnds {α : Type} {g : Nat → Option α} {r : α} (h : Ev g r) : ∃ k, g k = some r := Ev.rounds h
theorem w64 {x : Int} (h : -9223372036854775808 ≤ x) (h' : x ≤ 9223372036854775807) : wrap64 x = x := by unfold wrap64; omega
theorem w64succ (i : Nat) (h : i < 4611686018427387904) : wrap64 ((i : Int) + 1) = ((i + 1 : Nat) : Int) := by unfold wrap64; omega
theorem wfI {x : Int} (h : (Lit.int .i64 x).wf = true) : -9223372036854775808 ≤ x ∧ x ≤ 9223372036854775807 := by
  simp only [Lit.wf, IntKind.min, IntKind.max, IntKind.bits, IntKind.signed, Bool.and_eq_true, decide_eq_true_eq] at h
  simpa using h
theorem wfB {x : Int} (h : (Lit.int .u8 x).wf = true) : 0 ≤ x ∧ x ≤ 255 := by
  simp only [Lit.wf, IntKind.min, IntKind.max, IntKind.bits, IntKind.signed, Bool.and_eq_true, decide_eq_true_eq] at h
  simpa using h
theorem rdN (l : List Int) (i : Nat) (h : i < l.length) : rd l (i : Int) = l[i] := by simp [rd, List.getD_eq_getElem?_getD, h]
theorem fillStep {α : Type} (l : List α) (z : α) (i d : Nat) (h : i + (d + 1) = l.length) : (l.take i ++ List.replicate (d + 1) z).set i (l[i]'(by omega)) = l.take (i + 1) ++ List.replicate d z := by
  rw [List.set_append_right _ _ (by simp; omega), List.take_succ_eq_append_getElem (show i < l.length by omega), List.append_assoc]
  congr 1
  have e : i - (l.take i).length = 0 := by simp; omega
  rw [e]
  rfl
theorem evCast {α : Type} {g : Nat → Option α} {r r' : α} (h : Ev g r') (e : r' = r) : Ev g r := e ▸ h

/-! ### slices of Field: the copy, the comparison -/
def ofField (x : S77) : S78 := ⟨x.f0, x.f1⟩
theorem toField_loop (l : List S77) (hl : l.length < 4611686018427387904) : ∀ (d i : Nat), i + d = l.length → Ev (fun k => laws_toFieldS.l0 k l ((l.map ofField).take i ++ List.replicate d z78) (i : Int)) (l.map ofField) := by
  intro d
  induction d with
  | zero =>
    intro i h
    refine evSucc ?_
    simp only [laws_toFieldS.l0]
    refine evNeg (by omega) (evNow ?_)
    rw [List.take_of_length_le (by simp; omega)]; simp
  | succ d ih =>
    intro i h
    refine evSucc ?_
    simp only [laws_toFieldS.l0, laws_toField.f]
    refine evPos (by omega) (evPos (by omega) (evPut rfl (evPos (by simp; omega) ?_)))
    have e : (⟨(rd_T77 l (i : Int)).f0, (rd_T77 l (i : Int)).f1⟩ : S78) = (l.map ofField)[i]'(by simp; omega) := by
      simp [rd_T77, List.getD_eq_getElem?_getD, ofField, show i < l.length by omega]
    rw [w64succ i (by omega), Int.toNat_natCast]
    show Ev (fun k => laws_toFieldS.l0 k l (((l.map ofField).take i ++ List.replicate (d + 1) z78).set i ⟨(rd_T77 l (i : Int)).f0, (rd_T77 l (i : Int)).f1⟩) _) _
    rw [e, fillStep (l.map ofField) _ i d (by simp; omega)]
    exact ih (i + 1) (by omega)
theorem toField (l : List S77) (hl : l.length ≤ 1048576) : Ev (fun k => laws_toFieldS.f k l) (l.map ofField) := by
  unfold laws_toFieldS.f
  refine evPos (by omega) (evPos (by omega) ?_)
  have := toField_loop l (by omega) l.length 0 (by omega)
  simpa using this
theorem eqField1 (x : S78) : laws_eqField.f x.f0 x.f1 x.f0 x.f1 = some true := by
  unfold laws_eqField.f; simp
theorem eqField_loop (l : List S78) (hl : l.length < 4611686018427387904) : ∀ (d i : Nat), i + d = l.length → Ev (fun k => laws_eqFieldS.l0 k l l (i : Int)) true := by
  intro d
  induction d with
  | zero =>
    intro i h
    refine evSucc ?_
    simp only [laws_eqFieldS.l0]
    exact evNeg (by omega) (Ev.now _)
  | succ d ih =>
    intro i h
    refine evSucc ?_
    simp only [laws_eqFieldS.l0]
    refine evPos (by omega) (evPos (by omega) (evPos (by omega) (evPut (eqField1 _) (evPos rfl ?_))))
    rw [w64succ i (by omega)]
    exact ih (i + 1) (by omega)
theorem eqField (l : List S78) (hl : l.length < 4611686018427387904) : Ev (fun k => laws_eqFieldS.f k l l) true := by
  unfold laws_eqFieldS.f
  exact evPos rfl (eqField_loop l hl l.length 0 (by omega))

/-! ### fields: their sizes, and which are valid -/
def smallF (x : S77) : Prop := x.f0.size ≤ 1048576 ∧ x.f1.size ≤ 1048576
theorem szField_is (x : S77) (left : Int) (hl : 0 ≤ left ∧ left ≤ 1048576) (hx : good77 x) : ∃ r, laws_szField.f x.f0 x.f1 left = some r ∧ r ≤ 1048576 ∧ (0 ≤ r → smallF x) := by
  obtain ⟨h0, h1⟩ := hx
  unfold maxLen at h0 h1
  unfold laws_szField.f smallF
  rw [w64 (x := left - (x.f0.size : Int)) (by omega) (by omega)]
  by_cases h : left - (x.f0.size : Int) < 0
  · rw [if_pos h]
    exact ⟨-1, rfl, by omega, by omega⟩
  · rw [if_neg h, w64 (x := left - (x.f0.size : Int) - (x.f1.size : Int)) (by omega) (by omega)]
    by_cases h2 : left - (x.f0.size : Int) - (x.f1.size : Int) < 0
    · rw [if_pos h2]
      exact ⟨-1, rfl, by omega, by omega⟩
    · rw [if_neg h2]
      exact ⟨_, rfl, by omega, fun _ => by omega⟩
theorem rdFL (l : List S77) (i : Nat) (h : i < l.length) : rd_T77 l (i : Int) = l[i] := by simp [rd_T77, List.getD_eq_getElem?_getD, h]
theorem rdFI (l : List S78) (i : Nat) (h : i < l.length) : rd_T78 l (i : Int) = l[i] := by simp [rd_T78, List.getD_eq_getElem?_getD, h]
theorem szFieldS_loop (l : List S77) (hl : l.length ≤ 1048576) (hg : ∀ x ∈ l, good77 x) : ∀ (d i : Nat) (left : Int), i + d = l.length → 0 ≤ left → left ≤ 1048576 →
    ∃ r, Ev (fun k => laws_szFieldS.l0 k l left (i : Int)) r ∧ r ≤ 1048576 ∧ (0 ≤ r → ∀ x ∈ l.drop i, smallF x) := by
  intro d
  induction d with
  | zero =>
    intro i left h h0 h1
    refine ⟨left, evSucc ?_, h1, fun _ x hx => ?_⟩
    · simp only [laws_szFieldS.l0]
      exact evNeg (by omega) (Ev.now _)
    · rw [List.drop_of_length_le (by omega)] at hx
      simp at hx
  | succ d ih =>
    intro i left h h0 h1
    have hi : i < l.length := by omega
    obtain ⟨r, hr, hb, hs⟩ := szField_is l[i] left ⟨h0, h1⟩ (hg _ (List.getElem_mem hi))
    by_cases hn : r < 0
    · refine ⟨-1, evSucc ?_, by omega, by omega⟩
      simp only [laws_szFieldS.l0]
      rw [rdFL l i hi]
      exact evPos (by omega) (evPos (by omega) (evPut hr (evPos hn (Ev.now _))))
    · obtain ⟨q, hq, hqb, hqs⟩ := ih (i + 1) r (by omega) (by omega) hb
      refine ⟨q, evSucc ?_, hqb, fun h0 x hx => ?_⟩
      · simp only [laws_szFieldS.l0]
        rw [rdFL l i hi, w64succ i (by omega)]
        exact evPos (by omega) (evPos (by omega) (evPut hr (evNeg hn hq)))
      · rw [List.drop_eq_getElem_cons hi, List.mem_cons] at hx
        rcases hx with rfl | hx
        · exact hs (by omega)
        · exact hqs h0 x hx
/-- What is left of 2^20: the list is short, and so are its texts. -/
theorem szFieldS (l : List S77) (left : Int) (h0 : 0 ≤ left) (h1 : left ≤ 1048576) (hm : l.length ≤ maxLen) (hg : ∀ x ∈ l, good77 x) : ∃ r, Ev (fun k => laws_szFieldS.f k l left) r ∧ r ≤ 1048576 ∧ (0 ≤ r → l.length ≤ 1048576 ∧ ∀ x ∈ l, smallF x) := by
  unfold maxLen at hm
  unfold laws_szFieldS.f
  rw [w64 (x := left - (l.length : Int)) (by omega) (by omega)]
  by_cases h : left - (l.length : Int) < 0
  · exact ⟨-1, evPos h (Ev.now _), by omega, by omega⟩
  · obtain ⟨r, hr, hb, hs⟩ := szFieldS_loop l (by omega) hg l.length 0 (left - (l.length : Int)) (by omega) (by omega) (by omega)
    exact ⟨r, evNeg h hr, hb, fun h0 => ⟨by omega, by simpa using hs h0⟩⟩
def small (x : S78) : Prop := x.f0.size ≤ 1048576 ∧ x.f1.size ≤ 1048576
theorem small_map (l : List S77) (h : ∀ x ∈ l, smallF x) : ∀ x ∈ l.map ofField, small x := by
  intro x hx
  obtain ⟨y, hy, rfl⟩ := List.mem_map.1 hx
  exact h y hy
theorem lenD (s : ByteArray) : s.data.toList.length = s.size := by rw [Array.length_toList]; rfl
theorem btL (s : ByteArray) (i : Nat) (h : i < s.data.toList.length) : bt s (i : Int) = ((s.data.toList[i]).toNat : Int) := by
  have h2 : i < s.size := by rw [lenD] at h; exact h
  have e := bt_at s (i : Int) (by simpa using h2)
  rw [← e]
  rfl

/-! which are valid -/
def charP (b : UInt8) : Bool := decide (33 ≤ b.toNat ∧ b.toNat ≤ 126 ∧ ¬ (65 ≤ b.toNat ∧ b.toNat ≤ 90))
def signP (b : UInt8) : Bool := !([0, 10, 13] : List UInt8).contains b
def nameP (s : ByteArray) : Bool := s.data.toList.all charP
def valP (s : ByteArray) : Bool := s.data.toList.all signP
def fieldP (n v : ByteArray) : Bool := decide (1 ≤ n.size ∧ n.size ≤ 64 ∧ v.size ≤ 1024) && (nameP n && valP v)
theorem signIff (b : UInt8) : signP b = decide (¬ (b.toNat = 0) ∧ ¬ (b.toNat = 10) ∧ ¬ (b.toNat = 13)) := by
  have e : ∀ c : UInt8, (b = c) ↔ b.toNat = c.toNat := fun c => UInt8.toNat_inj.symm
  unfold signP
  rw [Bool.eq_iff_iff]
  simp only [List.contains_cons, List.contains_nil, Bool.or_false, Bool.not_eq_true', Bool.or_eq_false_iff, beq_eq_false_iff_ne, ne_eq, decide_eq_true_eq, e]
  exact Iff.rfl
theorem valS_loop (n v : ByteArray) (hv : v.size ≤ 100000000) : ∀ (d i : Nat), i + d = v.data.toList.length → Ev (fun k => spec_l14FieldOK.l1 k (i : Int) n v) ((v.data.toList.drop i).all signP) := by
  have hL := lenD v
  intro d
  induction d with
  | zero =>
    intro i h
    refine evSucc ?_
    simp only [spec_l14FieldOK.l1]
    rw [List.drop_of_length_le (by omega)]
    exact evNeg (by omega) (Ev.now _)
  | succ d ih =>
    intro i h
    have hi : i < v.data.toList.length := by omega
    refine evSucc ?_
    simp only [spec_l14FieldOK.l1]
    rw [btL v i hi, List.drop_eq_getElem_cons hi, List.all_cons, w64succ i (by omega)]
    refine evPos (by omega) (evPos (by omega) (evSplit (fun h1 => evNow ?_) (fun h1 => evSplit (fun h2 => evNow ?_) (fun h2 => evSplit (fun h3 => evNow ?_) (fun h3 => ?_)))))
    · rw [signIff, decide_eq_false (by omega)]; rfl
    · rw [signIff, decide_eq_false (by omega)]; rfl
    · rw [signIff, decide_eq_false (by omega)]; rfl
    · rw [signIff, decide_eq_true (by omega), Bool.true_and]
      exact ih (i + 1) (by omega)
theorem nameS_loop (n v : ByteArray) (hn : n.size ≤ 100000000) (hv : v.size ≤ 100000000) : ∀ (d i : Nat), i + d = n.data.toList.length → Ev (fun k => spec_l14FieldOK.l0 k (i : Int) n v) ((n.data.toList.drop i).all charP && valP v) := by
  have hL := lenD n
  intro d
  induction d with
  | zero =>
    intro i h
    refine evSucc ?_
    simp only [spec_l14FieldOK.l0]
    rw [List.drop_of_length_le (by omega)]
    refine evNeg (by omega) ?_
    exact valS_loop n v hv v.data.toList.length 0 (by omega)
  | succ d ih =>
    intro i h
    have hi : i < n.data.toList.length := by omega
    refine evSucc ?_
    simp only [spec_l14FieldOK.l0]
    rw [btL n i hi, List.drop_eq_getElem_cons hi, List.all_cons, w64succ i (by omega)]
    have good : charP (n.data.toList[i]) = true → Ev (fun k => spec_l14FieldOK.l0 k ((i + 1 : Nat) : Int) n v) (charP (n.data.toList[i]) && ((n.data.toList.drop (i + 1)).all charP) && valP v) := by
      intro hc
      rw [hc, Bool.true_and]
      exact ih (i + 1) (by omega)
    refine evPos (by omega) (evPos (by omega) (evSplit (fun h1 => evNow ?_) (fun h1 => evSplit (fun h2 => evNow ?_) (fun h2 => evSplit (fun h3 => evSplit (fun h4 => evNow ?_) (fun h4 => good ?_)) (fun h3 => good ?_)))))
    · rw [show charP (n.data.toList[i]) = false from decide_eq_false (by omega)]; rfl
    · rw [show charP (n.data.toList[i]) = false from decide_eq_false (by omega)]; rfl
    · rw [show charP (n.data.toList[i]) = false from decide_eq_false (by omega)]; rfl
    · exact decide_eq_true (by omega)
    · exact decide_eq_true (by omega)
theorem fieldS (n v : ByteArray) : Ev (fun k => spec_l14FieldOK.f k n v) (fieldP n v) := by
  have bad : ∀ q, q = false → Ev (fun k => spec_l14FieldOK.j0 k true n v) q := by
    intro q hq
    refine evSucc ?_
    simp only [spec_l14FieldOK.j0]
    exact evPos (by first | rfl | trivial) (evNow hq.symm)
  unfold spec_l14FieldOK.f fieldP
  refine evSplit (fun h1 => bad _ ?_) (fun h1 => evSplit (fun h2 => bad _ ?_) (fun h2 => ?_))
  · rw [decide_eq_false (by omega)]; rfl
  · rw [decide_eq_false (by omega)]; rfl
  · by_cases h3 : v.size ≤ 1024
    · rw [decide_eq_false (show ¬ (v.size : Int) > 1024 by omega), decide_eq_true (by omega), Bool.true_and]
      refine evSucc ?_
      simp only [spec_l14FieldOK.j0]
      exact evNeg (by simp) (nameS_loop n v (by omega) (by omega) n.data.toList.length 0 (by omega))
    · rw [decide_eq_true (show (v.size : Int) > 1024 by omega), decide_eq_false (by omega)]
      exact bad _ rfl
theorem anyIdx (chars : List UInt8) : ∀ l : List UInt8, Go.Lib.containsAny l chars = l.any fun b => chars.contains b := by
  intro l
  unfold Go.Lib.containsAny
  induction l with
  | nil => rfl
  | cons b l ih =>
    have hg := Go.Lib.indexAny_ge chars l
    rw [Go.Lib.indexAny, List.any_cons]
    cases hb : chars.contains b
    · simp only [Bool.false_eq_true, if_false, Bool.false_or]
      rw [← ih]
      by_cases he : Go.Lib.indexAny l chars = -1
      · rw [he]; simp
      · rw [if_neg (by simpa using he)]
        exact decide_eq_decide.2 (by omega)
    · simp
theorem valI (v : ByteArray) : impl_valueOK.f v = some (decide (v.size ≤ 1024) && valP v) := by
  unfold impl_valueOK.f strings_ContainsAny.f
  by_cases h : v.size ≤ 1024
  · rw [if_pos (by omega), if_pos ⟨by decide, by decide, by omega, by decide⟩]
    simp only [Option.bind_some]
    rw [decide_eq_true h, Bool.true_and, anyIdx]
    congr 1
    unfold valP
    generalize v.data.toList = l
    induction l with
    | nil => rfl
    | cons b l ih => rw [List.any_cons, List.all_cons, ← ih, signP, Bool.not_or]
  · rw [if_neg (by omega), decide_eq_false h]
    rfl
theorem nameI_loop (n v : ByteArray) (hn : n.size ≤ 100000000) : ∀ (d i : Nat), i + d = n.data.toList.length → Ev (fun k => impl_fieldOK.l0 k (n.size : Int) (i : Int) n v) ((n.data.toList.drop i).all charP && (decide (v.size ≤ 1024) && valP v)) := by
  have hL := lenD n
  intro d
  induction d with
  | zero =>
    intro i h
    refine evSucc ?_
    simp only [impl_fieldOK.l0, valI]
    rw [List.drop_of_length_le (by omega)]
    exact evNeg (by omega) (evPut rfl (Ev.now _))
  | succ d ih =>
    intro i h
    have hi : i < n.data.toList.length := by omega
    refine evSucc ?_
    simp only [impl_fieldOK.l0]
    rw [btL n i hi, List.drop_eq_getElem_cons hi, List.all_cons, w64succ i (by omega)]
    have good : charP (n.data.toList[i]) = true → Ev (fun k => impl_fieldOK.l0 k (n.size : Int) ((i + 1 : Nat) : Int) n v) (charP (n.data.toList[i]) && ((n.data.toList.drop (i + 1)).all charP) && (decide (v.size ≤ 1024) && valP v)) := by
      intro hc
      rw [hc, Bool.true_and]
      exact ih (i + 1) (by omega)
    refine evPos (by omega) (evPos (by omega) (evPos (by omega) (evSplit (fun h1 => evNow ?_) (fun h1 => evSplit (fun h2 => evNow ?_) (fun h2 => evSplit (fun h3 => evSplit (fun h4 => evNow ?_) (fun h4 => good ?_)) (fun h3 => good ?_))))))
    · rw [show charP (n.data.toList[i]) = false from decide_eq_false (by omega)]; rfl
    · rw [show charP (n.data.toList[i]) = false from decide_eq_false (by omega)]; rfl
    · rw [show charP (n.data.toList[i]) = false from decide_eq_false (by omega)]; rfl
    · exact decide_eq_true (by omega)
    · exact decide_eq_true (by omega)
theorem fieldI (n v : ByteArray) : Ev (fun k => impl_fieldOK.f k n v) (fieldP n v) := by
  have bad : ∀ q, q = false → Ev (fun k => impl_fieldOK.j0 k true n v) q := by
    intro q hq
    refine evSucc ?_
    simp only [impl_fieldOK.j0]
    exact evPos (by first | rfl | trivial) (evNow hq.symm)
  unfold impl_fieldOK.f fieldP
  refine evSplit (fun h1 => bad _ ?_) (fun h1 => ?_)
  · rw [decide_eq_false (by omega)]; rfl
  · by_cases h2 : n.size ≤ 64
    · rw [decide_eq_false (show ¬ (n.size : Int) > 64 by omega)]
      refine evSucc ?_
      simp only [impl_fieldOK.j0]
      refine evNeg (by simp) (evCast (nameI_loop n v (by omega) n.data.toList.length 0 (by omega)) ?_)
      rw [List.drop_zero]
      show (nameP n && (decide (v.size ≤ 1024) && valP v)) = _
      by_cases h3 : v.size ≤ 1024
      · rw [decide_eq_true h3, decide_eq_true (by omega), Bool.true_and, Bool.true_and]
      · rw [decide_eq_false h3, decide_eq_false (by omega)]; simp
    · rw [decide_eq_true (show (n.size : Int) > 64 by omega), decide_eq_false (by omega)]
      exact bad _ rfl

/-! ### from 1 to most bytes, all from lo to hi -/
def lettersP (v : ByteArray) (most lo hi : Int) : Bool := v.data.toList.all (fun b => decide (lo ≤ (b.toNat : Int) ∧ (b.toNat : Int) ≤ hi)) && decide (1 ≤ v.size ∧ (v.size : Int) ≤ most)
theorem lettersI_loop (v : ByteArray) (most lo hi : Int) (hv : v.size ≤ 100000000) : ∀ (d i : Nat), i + d = v.data.toList.length →
    Ev (fun k => impl_letters.l0 k v most lo hi (v.size : Int) (i : Int)) ((v.data.toList.drop i).all (fun b => decide (lo ≤ (b.toNat : Int) ∧ (b.toNat : Int) ≤ hi)) && decide (1 ≤ v.size ∧ (v.size : Int) ≤ most)) := by
  have hL := lenD v
  intro d
  induction d with
  | zero =>
    intro i h
    refine evSucc ?_
    simp only [impl_letters.l0]
    rw [List.drop_of_length_le (by omega)]
    refine evNeg (by omega) (evSplit (fun h1 => evNow ?_) (fun h1 => evNow ?_))
    · rw [List.all_nil, Bool.true_and]
      exact decide_eq_decide.2 ⟨fun h => ⟨by omega, h⟩, fun h => h.2⟩
    · rw [decide_eq_false (by omega)]; simp
  | succ d ih =>
    intro i h
    have hi : i < v.data.toList.length := by omega
    refine evSucc ?_
    simp only [impl_letters.l0]
    rw [btL v i hi, List.drop_eq_getElem_cons hi, List.all_cons, w64succ i (by omega)]
    refine evPos (by omega) (evPos (by omega) (evPos (by omega) (evSplit (fun h1 => evNow ?_) (fun h1 => evSplit (fun h2 => evNow ?_) (fun h2 => ?_)))))
    · rw [decide_eq_false (by omega)]; rfl
    · rw [decide_eq_false (by omega)]; rfl
    · rw [decide_eq_true (by omega), Bool.true_and]
      exact ih (i + 1) (by omega)
theorem lettersI (v : ByteArray) (most lo hi : Int) (hv : v.size ≤ 100000000) : Ev (fun k => impl_letters.f k v most lo hi) (lettersP v most lo hi) := by
  unfold impl_letters.f lettersP
  exact evCast (lettersI_loop v most lo hi hv v.data.toList.length 0 (by omega)) (by rw [List.drop_zero])

/-! ### the length that a list of fields tells -/
def lenVal (v : ByteArray) : Option Nat := if 1 ≤ v.size ∧ v.size ≤ 9 then Go.Lib.decFrom 0 v.data.toList else none
def nameCL : List UInt8 := [99, 111, 110, 116, 101, 110, 116, 45, 108, 101, 110, 103, 116, 104]
def stI : Option Nat → Int
  | none => -1
  | some m => (m : Int)
def lenGo : List S78 → Option Nat → Int × Int
  | [], st => (stI st, 0)
  | f :: r, st => if f.f0.toList = nameCL then (if st.isSome = true then (0, 17) else match lenVal f.f1 with | some m => lenGo r (some m) | none => (0, 17)) else lenGo r st
theorem decAll : ∀ (l : List UInt8) (acc : Nat), (Go.Lib.decFrom acc l).isSome = l.all (fun b => decide ((48 : Int) ≤ (b.toNat : Int) ∧ (b.toNat : Int) ≤ 57))
  | [], _ => rfl
  | b :: r, acc => by
    rw [List.all_cons, Go.Lib.decFrom]
    unfold Go.Lib.digitVal
    by_cases h : 48 ≤ b.toNat ∧ b.toNat ≤ 57
    · rw [if_pos h, decide_eq_true (by omega), Bool.true_and]
      exact decAll r _
    · rw [if_neg h, decide_eq_false (by omega)]
      rfl
theorem lenLetters (v : ByteArray) : lettersP v 9 48 57 = (lenVal v).isSome := by
  unfold lettersP lenVal
  rw [← decAll _ 0]
  by_cases h : 1 ≤ v.size ∧ v.size ≤ 9
  · rw [if_pos h, decide_eq_true (by omega), Bool.and_true]
  · rw [if_neg h, decide_eq_false (by omega), Bool.and_false]
    rfl
theorem lenAtoi (v : ByteArray) (m : Nat) (h : lenVal v = some m) : strconv_Atoi.f v = some ((m : Int), none) := by
  unfold lenVal at h
  by_cases hc : 1 ≤ v.size ∧ v.size ≤ 9
  · rw [if_pos hc] at h
    unfold strconv_Atoi.f
    rw [if_pos (by omega)]
    have hL := lenD v
    have ha : Go.Lib.atoi v.data.toList = some (m : Int) := by
      cases hl : v.data.toList with
      | nil => rw [hl] at hL; simp at hL; omega
      | cons b r =>
        rw [hl] at h
        have hb : 48 ≤ b.toNat ∧ b.toNat ≤ 57 := by
          have := decAll (b :: r) 0
          rw [h, List.all_cons] at this
          have h2 := (Bool.and_eq_true_iff.1 this.symm).1
          have h3 := of_decide_eq_true h2
          omega
        have n1 : (b == 45) = false := beq_eq_false_iff_ne.2 (fun e => by rw [e] at hb; exact absurd hb.1 (by decide))
        have n2 : (b == 43) = false := beq_eq_false_iff_ne.2 (fun e => by rw [e] at hb; exact absurd hb.1 (by decide))
        rw [Go.Lib.atoi, n1, n2]
        simp only [Bool.false_eq_true, if_false]
        rw [Go.Lib.decNat, List.isEmpty_cons]
        simp only [Bool.false_eq_true, if_false, h, Option.map_some]
    rw [ha]
  · rw [if_neg hc] at h
    exact absurd h (by simp)
theorem lenI_loop (l : List S78) (hl : l.length ≤ 64) (hs : ∀ x ∈ l, small x) : ∀ (d i : Nat) (st : Option Nat), i + d = l.length → Ev (fun k => impl_LengthOf.l0 k (stI st) st.isSome l (l.length : Int) (i : Int)) (lenGo (l.drop i) st) := by
  intro d
  induction d with
  | zero =>
    intro i st h
    refine evSucc ?_
    simp only [impl_LengthOf.l0]
    rw [List.drop_of_length_le (by omega)]
    exact evNeg (by omega) (Ev.now _)
  | succ d ih =>
    intro i st h
    have hi : i < l.length := by omega
    have hv := (hs _ (List.getElem_mem hi)).2
    refine evSucc ?_
    simp only [impl_LengthOf.l0]
    rw [rdFI l i hi, List.drop_eq_getElem_cons hi, lenGo, w64succ i (by omega)]
    refine evPos (by omega) (evPos (by omega) (evPos (by omega) (evSplit (fun h1 => ?_) (fun h1 => ?_))))
    · rw [if_pos (show _ = nameCL from h1)]
      refine evSplit (fun h2 => evNow (by rw [if_pos h2])) (fun h2 => ?_)
      rw [if_neg h2]
      have hst : st = none := by cases st with | none => rfl | some m => exact absurd rfl h2
      subst hst
      refine evBind (evCast (lettersI (l[i]).f1 9 48 57 (by omega)) rfl) ?_
      rw [lenLetters]
      cases hm : lenVal (l[i]).f1 with
      | none => exact evNeg (by simp) (Ev.now _)
      | some m =>
        refine evPos (by simp) (evPut (lenAtoi _ m hm) ?_)
        exact ih (i + 1) (some m) (by omega)
    · rw [if_neg (show ¬ (_ = nameCL) from h1)]
      exact ih (i + 1) st (by omega)
theorem lenI (l : List S78) (hs : ∀ x ∈ l, small x) : Ev (fun k => impl_LengthOf.f k l) (if l.length ≤ 64 then lenGo l none else (0, 4)) := by
  unfold impl_LengthOf.f
  by_cases h : l.length ≤ 64
  · rw [if_pos h]
    exact evNeg (by omega) (evCast (lenI_loop l h hs l.length 0 none (by omega)) (by rw [List.drop_zero]))
  · rw [if_neg h]
    exact evPos (by omega) (Ev.now _)
theorem lenS_digits (l : List S78) (x5 : Int) (v : ByteArray) (hv : v.size ≤ 9) (r : Int × Int) : ∀ (d i acc : Nat), i + d = v.data.toList.length → acc < 10 ^ i →
    (∀ m : Nat, Go.Lib.decFrom acc (v.data.toList.drop i) = some m → Ev (fun k => spec_LengthOf.l0 k l (m : Int) (wrap64 (x5 + 1))) r) → (Go.Lib.decFrom acc (v.data.toList.drop i) = none → r = (0, 17)) →
    Ev (fun k => spec_LengthOf.l1 k l (acc : Int) x5 v (i : Int)) r := by
  have hL := lenD v
  intro d
  induction d with
  | zero =>
    intro i acc h ha h1 h2
    refine evSucc ?_
    simp only [spec_LengthOf.l1]
    rw [List.drop_of_length_le (by omega)] at h1
    exact evNeg (by omega) (h1 acc rfl)
  | succ d ih =>
    intro i acc h ha h1 h2
    have hi : i < v.data.toList.length := by omega
    refine evSucc ?_
    simp only [spec_LengthOf.l1]
    rw [List.drop_eq_getElem_cons hi, Go.Lib.decFrom] at h1 h2
    unfold Go.Lib.digitVal at h1 h2
    rw [btL v i hi, w64succ i (by omega)]
    have hp : 10 ^ i ≤ 10 ^ 8 := Nat.pow_le_pow_right (by omega) (by omega)
    have hps : 10 ^ (i + 1) = 10 ^ i * 10 := Nat.pow_succ ..
    have hb : (v.data.toList[i]).toNat < 256 := (v.data.toList[i]).toNat_lt
    refine evPos (by omega) (evPos (by omega) (evSplit (fun h3 => evNow ?_) (fun h3 => evSplit (fun h4 => evNow ?_) (fun h4 => ?_))))
    · rw [if_neg (by omega)] at h2
      exact (h2 rfl).symm
    · rw [if_neg (by omega)] at h2
      exact (h2 rfl).symm
    · rw [if_pos (by omega)] at h1 h2
      have e : wrap64 (wrap64 (10 * (acc : Int)) + (((v.data.toList[i]).toNat : Int) - 48) % 256) = ((acc * 10 + ((v.data.toList[i]).toNat - 48) : Nat) : Int) := by
        rw [w64 (x := 10 * (acc : Int)) (by omega) (by omega), w64 (by omega) (by omega)]
        omega
      rw [e]
      exact ih (i + 1) _ (by omega) (by omega) h1 h2
theorem lenS_loop (l : List S78) (hl : l.length ≤ 64) (hs : ∀ x ∈ l, small x) : ∀ (d i : Nat) (st : Option Nat), i + d = l.length → Ev (fun k => spec_LengthOf.l0 k l (stI st) (i : Int)) (lenGo (l.drop i) st) := by
  intro d
  induction d with
  | zero =>
    intro i st h
    refine evSucc ?_
    simp only [spec_LengthOf.l0]
    rw [List.drop_of_length_le (by omega)]
    exact evNeg (by omega) (Ev.now _)
  | succ d ih =>
    intro i st h
    have hi : i < l.length := by omega
    have hv := (hs _ (List.getElem_mem hi)).2
    refine evSucc ?_
    simp only [spec_LengthOf.l0]
    rw [rdFI l i hi, List.drop_eq_getElem_cons hi, lenGo]
    have bad : Ev (fun k => spec_LengthOf.j1 k l (i : Int) (l[i]).f1 true) (0, 17) := by
      refine evSucc ?_
      simp only [spec_LengthOf.j1]
      exact evPos (by first | rfl | trivial) (Ev.now _)
    refine evPos (by omega) (evPos (by omega) (evSplit (fun h1 => ?_) (fun h1 => ?_)))
    · rw [if_pos (show _ = nameCL from h1)]
      cases st with
      | some m => exact evPos (by simp only [stI]; omega) bad
      | none =>
        refine evNeg (by simp [stI]) ?_
        rw [if_neg (by simp)]
        by_cases h2 : (l[i]).f1.size < 1
        · refine evPos (by omega) ?_
          rw [lenVal, if_neg (by omega)]
          exact bad
        · refine evNeg (by omega) ?_
          by_cases h3 : (l[i]).f1.size ≤ 9
          · rw [decide_eq_false (by omega)]
            refine evSucc ?_
            simp only [spec_LengthOf.j1]
            refine evNeg (by simp) ?_
            have e : lenVal (l[i]).f1 = Go.Lib.decFrom 0 (l[i]).f1.data.toList := by rw [lenVal, if_pos (by omega)]
            rw [e]
            refine lenS_digits l (i : Int) (l[i]).f1 h3 _ (l[i]).f1.data.toList.length 0 0 (by omega) (by decide) ?_ ?_
            · intro m hm
              rw [List.drop_zero] at hm
              rw [hm, w64succ i (by omega)]
              exact ih (i + 1) (some m) (by omega)
            · intro hm
              rw [List.drop_zero] at hm
              rw [hm]
          · rw [decide_eq_true (by omega), lenVal, if_neg (by omega)]
            exact bad
    · rw [if_neg (show ¬ (_ = nameCL) from h1), w64succ i (by omega)]
      exact ih (i + 1) st (by omega)
theorem lenS (l : List S78) (hs : ∀ x ∈ l, small x) : Ev (fun k => spec_LengthOf.f k l) (if l.length ≤ 64 then lenGo l none else (0, 4)) := by
  unfold spec_LengthOf.f
  by_cases h : l.length ≤ 64
  · rw [if_pos h]
    exact evNeg (by omega) (evCast (lenS_loop l h hs l.length 0 none (by omega)) (by rw [List.drop_zero]))
  · rw [if_neg h]
    exact evPos (by omega) (Ev.now _)

/-! ### texts without a blank at their ends; plain fields; lists of them -/
theorem ext_list (v : ByteArray) (a b : Nat) : (v.extract a b).toList = (v.data.toList.drop a).take (b - a) := by
  rw [Go.Lib.toList_data, ByteArray.data_extract, Array.toList_extract, List.extract_eq_take_drop]
def trimP (v : ByteArray) : Bool := decide (v.size = 0 ∨ (bt v 0 ≠ 32 ∧ bt v ((v.size : Int) - 1) ≠ 32))
theorem one32 : (⟨#[32]⟩ : ByteArray).size = 1 := rfl
theorem l32 : (⟨#[32]⟩ : ByteArray).toList = [32] := by rw [Go.Lib.toList_data]
theorem beq32 (b : UInt8) : ([b] == ([32] : List UInt8)) = decide ((b.toNat : Int) = 32) := by
  rw [Bool.eq_iff_iff, beq_iff_eq, decide_eq_true_eq]
  constructor
  · intro h
    rw [List.cons.injEq] at h
    rw [h.1]
    rfl
  · intro h
    have : b = 32 := UInt8.toNat_inj.1 (by show b.toNat = 32; omega)
    rw [this]
theorem hasPre (v : ByteArray) : strings_HasPrefix.f v (⟨#[32]⟩ : ByteArray) = some (decide (1 ≤ v.size ∧ bt v 0 = 32)) := by
  have hL := lenD v
  unfold strings_HasPrefix.f stringslite_HasPrefix.f
  rw [one32]
  by_cases h : 1 ≤ v.size
  · rw [if_pos (by omega), if_pos (by omega), if_pos (by omega), l32, ext_list]
    have hb := btL v 0 (by omega)
    rw [show ((0 : Nat) : Int) = (0 : Int) from rfl] at hb
    rw [hb]
    simp only [Option.bind_some]
    congr 1
    have e : ((v.data.toList.drop 0).take (((1 : Nat) : Int).toNat - 0)) = [v.data.toList[0]] := by
      rw [List.drop_eq_getElem_cons (show 0 < v.data.toList.length by omega)]
      rfl
    rw [e, beq32]
    exact decide_eq_decide.2 ⟨fun q => ⟨h, q⟩, fun q => q.2⟩
  · rw [if_neg (by omega), decide_eq_false (by omega)]
    rfl
theorem hasSuf (v : ByteArray) (hv : v.size ≤ 100000000) : strings_HasSuffix.f v (⟨#[32]⟩ : ByteArray) = some (decide (1 ≤ v.size ∧ bt v ((v.size : Int) - 1) = 32)) := by
  have hL := lenD v
  unfold strings_HasSuffix.f stringslite_HasSuffix.f
  rw [one32]
  by_cases h : 1 ≤ v.size
  · rw [w64 (x := (v.size : Int) - ((1 : Nat) : Int)) (by omega) (by omega), if_pos (by omega), if_pos (by omega), if_pos (by omega), l32, ext_list]
    have hb := btL v (v.size - 1) (by omega)
    rw [show ((v.size - 1 : Nat) : Int) = (v.size : Int) - 1 from by omega] at hb
    rw [hb]
    simp only [Option.bind_some]
    congr 1
    have e : ((v.data.toList.drop ((v.size : Int) - ((1 : Nat) : Int)).toNat).take (v.size - ((v.size : Int) - ((1 : Nat) : Int)).toNat)) = [v.data.toList[v.size - 1]'(by omega)] := by
      rw [show ((v.size : Int) - ((1 : Nat) : Int)).toNat = v.size - 1 from by omega, List.drop_eq_getElem_cons (show v.size - 1 < v.data.toList.length by omega), List.drop_of_length_le (by omega)]
      rw [show v.size - (v.size - 1) = 1 from by omega]
      rfl
    rw [e, beq32]
    exact decide_eq_decide.2 ⟨fun q => ⟨h, q⟩, fun q => q.2⟩
  · rw [if_neg (by omega), decide_eq_false (by omega)]
    rfl
theorem trimI (v : ByteArray) (hv : v.size ≤ 100000000) : impl_trimmed.f v = some (trimP v) := by
  unfold impl_trimmed.f
  rw [hasPre, hasSuf v hv]
  simp only [Option.bind_some]
  unfold trimP
  by_cases h1 : 1 ≤ v.size ∧ bt v 0 = 32
  · rw [if_pos (decide_eq_true h1), decide_eq_false (by omega)]
  · rw [if_neg (by simpa using h1)]
    by_cases h2 : 1 ≤ v.size ∧ bt v ((v.size : Int) - 1) = 32
    · rw [decide_eq_true h2, decide_eq_false (by omega)]
      rfl
    · rw [decide_eq_false h2, decide_eq_true (by omega)]
      rfl
def valueP (v : ByteArray) : Bool := decide (v.size ≤ 1024) && valP v
theorem fieldX (v : ByteArray) : fieldP (⟨#[120]⟩ : ByteArray) v = valueP v := by
  unfold fieldP valueP
  have e1 : (⟨#[120]⟩ : ByteArray).size = 1 := rfl
  have e2 : nameP (⟨#[120]⟩ : ByteArray) = true := by decide
  rw [e1, e2, Bool.true_and]
  congr 1
  exact decide_eq_decide.2 ⟨fun q => q.2.2, fun q => ⟨by omega, by omega, q⟩⟩
theorem fieldValue (n v : ByteArray) (h : fieldP n v = true) : valueP v = true ∧ 1 ≤ n.size ∧ n.size ≤ 64 := by
  unfold fieldP at h
  rw [Bool.and_eq_true, Bool.and_eq_true, decide_eq_true_eq] at h
  unfold valueP
  rw [h.2.2, decide_eq_true h.1.2.2]
  exact ⟨rfl, h.1.1, h.1.2.1⟩
theorem valueS (v : ByteArray) (hv : v.size ≤ 100000000) : Ev (fun k => spec_l15Value.f k v) (valueP v && trimP v) := by
  unfold spec_l15Value.f
  refine evBind (evCast (fieldS (⟨#[120]⟩ : ByteArray) v) (fieldX v)) ?_
  cases hq : valueP v with
  | false => exact evNeg (by simp) (evNow (by rw [Bool.false_and]))
  | true =>
    rw [Bool.true_and]
    refine evPos rfl ?_
    unfold trimP
    by_cases h0 : v.size = 0
    · rw [decide_eq_true (Or.inl h0)]
      exact evPos (by omega) (Ev.now _)
    · refine evNeg (by omega) (evPos (by omega) ?_)
      rw [w64 (x := (v.size : Int) - 1) (by omega) (by omega)]
      by_cases h1 : bt v 0 = 32
      · rw [decide_eq_false (by omega)]
        exact evPos h1 (Ev.now _)
      · refine evNeg h1 (evPos (by omega) (evPos (by omega) (evNow ?_)))
        by_cases h2 : bt v ((v.size : Int) - 1) = 32
        · rw [decide_eq_false (by omega), h2]
          rfl
        · rw [decide_eq_true (by omega)]
          exact bne_iff_ne.2 h2
theorem valueI (v : ByteArray) : impl_valueOK.f v = some (valueP v) := valI v
def isHop (n : ByteArray) : Bool := n.toList == ([99, 111, 110, 110, 101, 99, 116, 105, 111, 110] : List UInt8) || (n.toList == ([107, 101, 101, 112, 45, 97, 108, 105, 118, 101] : List UInt8) || (n.toList == ([116, 114, 97, 110, 115, 102, 101, 114, 45, 101, 110, 99, 111, 100, 105, 110, 103] : List UInt8) || n.toList == ([117, 112, 103, 114, 97, 100, 101] : List UInt8)))
def plainP (n v : ByteArray) : Bool := fieldP n v && (decide (bt n 0 ≠ 58) && (trimP v && !isHop n))
theorem plainS (n v : ByteArray) (hv : v.size ≤ 100000000) : Ev (fun k => spec_l15Plain.f k n v) (plainP n v) := by
  unfold spec_l15Plain.f plainP
  refine evBind (fieldS n v) ?_
  cases hq : fieldP n v with
  | false => exact evNeg (by simp) (Ev.now _)
  | true =>
    obtain ⟨hv1, hn, _⟩ := fieldValue n v hq
    rw [Bool.true_and]
    refine evPos rfl (evPos (by omega) (evSplit (fun h => evNow ?_) (fun h => evBind (valueS v hv) ?_)))
    · rw [decide_eq_false (by omega)]; rfl
    · rw [hv1, decide_eq_true h, Bool.true_and, Bool.true_and]
      cases ht : trimP v with
      | false => exact evNeg (by simp) (Ev.now _)
      | true =>
        rw [Bool.true_and]
        unfold isHop
        refine evPos rfl (evSplit (fun h1 => evNow ?_) (fun h1 => evSplit (fun h2 => evNow ?_) (fun h2 => evSplit (fun h3 => evNow ?_) (fun h3 => evNow ?_))))
        · rw [beq_iff_eq.2 h1]; rfl
        · rw [beq_iff_eq.2 h2, Bool.true_or, Bool.or_true]; rfl
        · rw [beq_iff_eq.2 h3, Bool.true_or, Bool.or_true, Bool.or_true]; rfl
        · rw [beq_eq_false_iff_ne.2 h1, beq_eq_false_iff_ne.2 h2, beq_eq_false_iff_ne.2 h3, Bool.false_or, Bool.false_or, Bool.false_or]; rfl
theorem plainI_j (n v : ByteArray) (hv : v.size ≤ 100000000) (x : Bool) : Ev (fun k => impl_plainOK.j0 k x n v) (!x && (fieldP n v && (decide (bt n 0 ≠ 58) && trimP v))) := by
  refine evSucc ?_
  simp only [impl_plainOK.j0]
  cases x with
  | true => exact evPos rfl (Ev.now _)
  | false =>
    refine evNeg (by simp) (evBind (fieldI n v) ?_)
    rw [Bool.not_false, Bool.true_and]
    cases hq : fieldP n v with
    | false => exact evNeg (by simp) (Ev.now _)
    | true =>
      obtain ⟨_, hn, _⟩ := fieldValue n v hq
      rw [Bool.true_and]
      refine evPos rfl (evPos (by omega) (evSplit (fun h => evNow ?_) (fun h => evPut (trimI v hv) (evNow ?_))))
      · rw [decide_eq_false (by omega)]; rfl
      · rw [decide_eq_true h, Bool.true_and]
theorem plainI (n v : ByteArray) (hv : v.size ≤ 100000000) : Ev (fun k => impl_plainOK.f k n v) (plainP n v) := by
  have e : plainP n v = (!isHop n && (fieldP n v && (decide (bt n 0 ≠ 58) && trimP v))) := by
    unfold plainP
    cases fieldP n v <;> cases decide (bt n 0 ≠ 58) <;> cases trimP v <;> cases isHop n <;> rfl
  rw [e]
  unfold impl_plainOK.f isHop
  refine evSplit (fun h1 => evCast (plainI_j n v hv _) ?_) (fun h1 => evSplit (fun h2 => evCast (plainI_j n v hv _) ?_) (fun h2 => evSplit (fun h3 => evCast (plainI_j n v hv _) ?_) (fun h3 => evCast (plainI_j n v hv _) ?_)))
  · rw [beq_iff_eq.2 h1, Bool.true_or]
  · rw [beq_iff_eq.2 h2, Bool.true_or, Bool.or_true]
  · rw [beq_iff_eq.2 h3, Bool.true_or, Bool.or_true, Bool.or_true]
  · rw [beq_eq_false_iff_ne.2 h1, beq_eq_false_iff_ne.2 h2, beq_eq_false_iff_ne.2 h3, Bool.false_or, Bool.false_or, Bool.false_or]
def fieldsP (l : List S78) : Bool := decide (l.length ≤ 60) && (l.all (fun x => plainP x.f0 x.f1) && (lenGo l none).2 == 0)
theorem fieldsS_loop (l : List S78) (hl : l.length ≤ 60) (hs : ∀ x ∈ l, small x) : ∀ (d i : Nat), i + d = l.length → Ev (fun k => spec_l15FieldsOK.l0 k l (i : Int)) ((l.drop i).all (fun x => plainP x.f0 x.f1) && (lenGo l none).2 == 0) := by
  intro d
  induction d with
  | zero =>
    intro i h
    refine evSucc ?_
    simp only [spec_l15FieldsOK.l0]
    rw [List.drop_of_length_le (by omega)]
    exact evNeg (by omega) (evBind (evCast (lenS l hs) (by rw [if_pos (by omega)])) (Ev.now _))
  | succ d ih =>
    intro i h
    have hi : i < l.length := by omega
    have hv := (hs _ (List.getElem_mem hi)).2
    refine evSucc ?_
    simp only [spec_l15FieldsOK.l0]
    rw [rdFI l i hi, List.drop_eq_getElem_cons hi, List.all_cons, w64succ i (by omega)]
    refine evPos (by omega) (evPos (by omega) (evBind (plainS _ _ (by omega)) ?_))
    cases hp : plainP (l[i]).f0 (l[i]).f1 with
    | false => exact evNeg (by simp) (Ev.now _)
    | true => exact evPos rfl (evCast (ih (i + 1) (by omega)) (by rw [Bool.true_and]))
theorem fieldsS (l : List S78) (hs : ∀ x ∈ l, small x) : Ev (fun k => spec_l15FieldsOK.f k l) (fieldsP l) := by
  unfold spec_l15FieldsOK.f fieldsP
  by_cases h : l.length ≤ 60
  · rw [decide_eq_true h, Bool.true_and]
    exact evNeg (by omega) (evCast (fieldsS_loop l h hs l.length 0 (by omega)) (by rw [List.drop_zero]))
  · rw [decide_eq_false h]
    exact evPos (by omega) (Ev.now _)
theorem fieldsI_idx (l : List S78) (hs : ∀ x ∈ l, small x) : ∀ i : Nat, ∃ j, Ev (fun k => impl_fieldsOK.idx k l i) j ∧ (j < 0 ↔ l.all (fun x => plainP x.f0 x.f1) = true) := by
  induction l with
  | nil => intro i; exact ⟨-1, Ev.now _, by simp⟩
  | cons x l ih =>
    intro i
    have hv := (hs x (List.mem_cons_self)).2
    obtain ⟨j, hj, hj2⟩ := ih (fun y hy => hs y (List.mem_cons_of_mem _ hy)) (i + 1)
    cases hp : plainP x.f0 x.f1 with
    | false =>
      refine ⟨(i : Int), ?_, by rw [List.all_cons, hp]; simp⟩
      exact evBind (evCast (plainI x.f0 x.f1 (by omega)) hp) (evNeg (by simp) (Ev.now _))
    | true =>
      refine ⟨j, ?_, by rw [List.all_cons, hp, Bool.true_and]; exact hj2⟩
      exact evBind (evCast (plainI x.f0 x.f1 (by omega)) hp) (evPos rfl hj)
theorem fieldsI (l : List S78) (hs : ∀ x ∈ l, small x) : Ev (fun k => impl_fieldsOK.f k l) (fieldsP l) := by
  unfold impl_fieldsOK.f fieldsP
  by_cases h : l.length ≤ 60
  · rw [decide_eq_true h, Bool.true_and]
    obtain ⟨j, hj, hj2⟩ := fieldsI_idx l hs 0
    refine evNeg (by omega) (evBind hj ?_)
    by_cases hn : j < 0
    · rw [hj2.1 hn, Bool.true_and]
      exact evNeg (by omega) (evBind (evCast (lenI l hs) (by rw [if_pos (by omega)])) (Ev.now _))
    · rw [Bool.eq_false_iff.2 (fun e => hn (hj2.2 e)), Bool.false_and]
      exact evPos (by omega) (Ev.now _)
  · rw [decide_eq_false h]
    exact evPos (by omega) (Ev.now _)

/-! ### responses -/
def respOkP (n : Int) (l : List S78) : Bool := decide (100 ≤ n ∧ n ≤ 599) && fieldsP l
theorem respOkS (n : Int) (l : List S78) (hl : ∀ x ∈ l, small x) : Ev (fun k => spec_l15ResponseOK.f k n l) (respOkP n l) := by
  unfold spec_l15ResponseOK.f respOkP
  refine evSplit (fun h1 => evSplit (fun h2 => ?_) (fun h2 => evNow ?_)) (fun h1 => evNow ?_)
  · rw [decide_eq_true ⟨h1, h2⟩, Bool.true_and]
    exact evBind (fieldsS l hl) (Ev.now _)
  · rw [decide_eq_false (by omega), Bool.false_and]
  · rw [decide_eq_false (by omega), Bool.false_and]
theorem respOkI (n : Int) (l : List S78) (hl : ∀ x ∈ l, small x) : Ev (fun k => impl_responseOK.f k n l) (respOkP n l) := by
  unfold impl_responseOK.f respOkP
  refine evSplit (fun h1 => evSplit (fun h2 => ?_) (fun h2 => evNow ?_)) (fun h1 => evNow ?_)
  · rw [decide_eq_true ⟨h1, h2⟩, Bool.true_and]
    exact evBind (fieldsI l hl) (Ev.now _)
  · rw [decide_eq_false (by omega), Bool.false_and]
  · rw [decide_eq_false (by omega), Bool.false_and]

/-! the marks on fields -/
theorem markT_loop : ∀ (d : Nat) (n : Int) (s : ByteArray), 0 ≤ n → n ≤ 10000000000 → n < 10 ^ d → s.size + d ≤ 100 → ∃ t, Ev (fun k => laws_markText.l0 k n s) t := by
  intro d
  induction d with
  | zero =>
    intro n s h0 hb h1 h2
    refine ⟨(⟨#[109]⟩ : ByteArray) ++ s, evSucc ?_⟩
    simp only [laws_markText.l0]
    exact evNeg (by omega) (evPos (by omega) (Ev.now _))
  | succ d ih =>
    intro n s h0 hb h1 h2
    by_cases hn : n > 0
    · have e1 : Int.tdiv n 10 = n / 10 := Int.tdiv_eq_ediv_of_nonneg h0
      have hs1 : ∀ x : Int, (strOfNums [x]).size = 1 := fun x => rfl
      have hw : wrap64 (n / 10) = n / 10 := w64 (by omega) (by omega)
      obtain ⟨t, ht⟩ := ih (n / 10) (strOfNums [(wrap64 (48 + (Int.tmod n 10))) % 256] ++ s) (by omega) (by omega) (by rw [Int.pow_succ] at h1; omega) (by rw [ByteArray.size_append, hs1]; omega)
      refine ⟨t, evSucc ?_⟩
      simp only [laws_markText.l0]
      rw [e1, hw]
      exact evPos hn (evPut rfl (evPos (by rw [hs1]; omega) ht))
    · refine ⟨(⟨#[109]⟩ : ByteArray) ++ s, evSucc ?_⟩
      simp only [laws_markText.l0]
      exact evNeg hn (evPos (by omega) (Ev.now _))
/-- What a mark reads as: one text for each number. -/
def MarkT (v : Int) (t : ByteArray) : Prop := Ev (fun k => laws_markText.f k v) t
theorem markT (v : Int) (h0 : 0 ≤ v) (h1 : v ≤ 9000000000) : ∃ t, MarkT v t := by
  unfold MarkT laws_markText.f
  by_cases h : v ≤ 0
  · exact ⟨_, evPos h (Ev.now _)⟩
  · obtain ⟨t, ht⟩ := markT_loop 10 v ⟨#[]⟩ h0 (by omega) (by omega) (by show 0 + 10 ≤ 100; omega)
    exact ⟨t, evNeg h ht⟩
def MarkedF (m : Int) (j : Nat) (x : S78) : Prop := MarkT (m + 2 * j) x.f0 ∧ MarkT (m + 2 * j + 1) x.f1
theorem markF_loop (m : Int) (n : Nat) (h0 : 0 ≤ m) (hm : m + 2 * n < 1000000000) : ∀ (d i : Nat) (l : List S78), i + d = n → l.length = n → (∀ (j : Nat) (h : j < l.length), j < i → MarkedF m j (l[j]'h)) →
    ∃ l' : List S78, l'.length = n ∧ (∀ (j : Nat) (h : j < l'.length), MarkedF m j (l'[j]'h)) ∧ Ev (fun k => laws_markFieldS.l0 k l (m + 2 * i) (i : Int)) (m + 2 * n, l') := by
  intro d
  induction d with
  | zero =>
    intro i l h hl hj
    refine ⟨l, hl, fun j hj' => hj j hj' (by omega), evSucc ?_⟩
    simp only [laws_markFieldS.l0]
    refine evNeg (by omega) (evNow ?_)
    have : i = n := by omega
    rw [this]
  | succ d ih =>
    intro i l h hl hj
    have hi : i < l.length := by omega
    obtain ⟨t1, h1⟩ := markT (m + 2 * i) (by omega) (by omega)
    obtain ⟨t2, h2⟩ := markT (m + 2 * i + 1) (by omega) (by omega)
    obtain ⟨l', hl', hj', e⟩ := ih (i + 1) (l.set i ⟨t1, t2⟩) (by omega) (by simpa using hl) (by
      intro j hj1 hlt
      by_cases hji : j = i
      · subst hji
        simp only [List.getElem_set_self]
        exact ⟨h1, h2⟩
      · rw [List.getElem_set_ne (by omega)]
        exact hj j (by simpa using hj1) (by omega))
    refine ⟨l', hl', hj', evSucc ?_⟩
    simp only [laws_markFieldS.l0]
    refine evPos (by omega) (evBind h1 (evPos (by omega) (evPut rfl ?_)))
    rw [w64 (x := m + 2 * (i : Int) + 1) (by omega) (by omega), w64 (x := m + 2 * (i : Int) + 1 + 1) (by omega) (by omega), w64succ i (by omega), Int.toNat_natCast]
    refine evBind h2 ?_
    have e1 : rd_T78 (l.set i ⟨t1, (rd_T78 l (i : Int)).f1⟩) (i : Int) = ⟨t1, (rd_T78 l (i : Int)).f1⟩ := by
      rw [rdFI _ i (by simpa using hi)]
      simp
    rw [e1, List.set_set]
    have e2 : m + 2 * (i : Int) + 1 + 1 = m + 2 * ((i + 1 : Nat) : Int) := by omega
    rw [e2]
    exact e
theorem markF (l : List S78) (m : Int) (h0 : 0 ≤ m) (hm : m + 2 * l.length < 1000000000) :
    ∃ l' : List S78, l'.length = l.length ∧ (∀ (j : Nat) (h : j < l'.length), MarkedF m j (l'[j]'h)) ∧ Ev (fun k => laws_markFieldS.f k l m) (m + 2 * l.length, l') := by
  obtain ⟨l', h1, h2, h3⟩ := markF_loop m l.length h0 hm l.length 0 l (by omega) rfl (fun j _ h => by omega)
  refine ⟨l', h1, h2, ?_⟩
  unfold laws_markFieldS.f
  simpa using h3
theorem heldF_loop (m : Int) (l : List S78) (h0 : 0 ≤ m) (hm : m + 2 * l.length < 1000000000) (hj : ∀ (j : Nat) (h : j < l.length), MarkedF m j (l[j]'h)) :
    ∀ (d i : Nat), i + d = l.length → Ev (fun k => laws_heldFieldS.l0 k l (m + 2 * i) (i : Int)) (m + 2 * l.length) := by
  intro d
  induction d with
  | zero =>
    intro i h
    refine evSucc ?_
    simp only [laws_heldFieldS.l0]
    refine evNeg (by omega) (evNow ?_)
    have : i = l.length := by omega
    rw [this]
  | succ d ih =>
    intro i h
    have hi : i < l.length := by omega
    obtain ⟨h1, h2⟩ := hj i hi
    refine evSucc ?_
    simp only [laws_heldFieldS.l0]
    rw [rdFI l i hi, w64 (x := m + 2 * (i : Int) + 1) (by omega) (by omega), w64 (x := m + 2 * (i : Int) + 1 + 1) (by omega) (by omega), w64succ i (by omega)]
    refine evPos (by omega) (evPos (by omega) (evBind h1 (evPos rfl (evBind h2 (evPos rfl ?_)))))
    have e2 : m + 2 * (i : Int) + 1 + 1 = m + 2 * ((i + 1 : Nat) : Int) := by omega
    rw [e2]
    exact ih (i + 1) (by omega)
theorem heldF (m : Int) (l : List S78) (h0 : 0 ≤ m) (hm : m + 2 * l.length < 1000000000) (hj : ∀ (j : Nat) (h : j < l.length), MarkedF m j (l[j]'h)) : Ev (fun k => laws_heldFieldS.f k l m) (m + 2 * l.length) := by
  unfold laws_heldFieldS.f
  have := heldF_loop m l h0 hm hj l.length 0 (by omega)
  simpa using this

def statusT : ByteArray := ⟨#[58, 115, 116, 97, 116, 117, 115]⟩
def threeT (n : Int) : ByteArray := ⟨(Go.Lib.decDigits n.toNat).toArray⟩
def respFieldsP (n : Int) (l : List S78) : List S78 × Int := if respOkP n l = true then ((⟨statusT, threeT n⟩ : S78) :: l, 0) else ([], 1)
theorem respOkP_is {n : Int} {l : List S78} (h : respOkP n l = true) : (100 ≤ n ∧ n ≤ 599) ∧ l.length ≤ 60 := by
  unfold respOkP fieldsP at h
  simp only [Bool.and_eq_true, decide_eq_true_eq] at h
  exact ⟨h.1, by omega⟩
theorem threeT_is (n : Int) (h : 100 ≤ n ∧ n ≤ 599) : spec_l15Three.f n = some (threeT n) := by
  obtain ⟨i, rfl⟩ : ∃ i : Nat, n = (i : Int) := ⟨n.toNat, by omega⟩
  unfold spec_l15Three.f threeT
  have e0 : Int.tdiv (i : Int) 100 = ((i / 100 : Nat) : Int) := by rw [Int.tdiv_eq_ediv_of_nonneg (by omega)]; omega
  have e1 : Int.tdiv (i : Int) 10 = ((i / 10 : Nat) : Int) := by rw [Int.tdiv_eq_ediv_of_nonneg (by omega)]; omega
  have e3 : Int.tmod (i : Int) 10 = ((i % 10 : Nat) : Int) := by rw [Int.tmod_eq_emod_of_nonneg (by omega)]; omega
  rw [e0, e1, e3, w64 (x := ((i / 10 : Nat) : Int)) (by omega) (by omega)]
  have e2 : Int.tmod ((i / 10 : Nat) : Int) 10 = ((i / 10 % 10 : Nat) : Int) := by rw [Int.tmod_eq_emod_of_nonneg (by omega)]; omega
  rw [e2, w64 (x := ((i / 100 : Nat) : Int)) (by omega) (by omega), w64 (x := 48 + ((i / 100 : Nat) : Int)) (by omega) (by omega), w64 (x := 48 + ((i / 10 % 10 : Nat) : Int)) (by omega) (by omega), w64 (x := 48 + ((i % 10 : Nat) : Int)) (by omega) (by omega)]
  have hd : Go.Lib.decDigits i = [UInt8.ofNat (48 + i / 100), UInt8.ofNat (48 + i / 10 % 10), UInt8.ofNat (48 + i % 10)] := by
    rw [Go.Lib.decDigits, dif_neg (by omega), Go.Lib.decDigits_two (by omega) (by omega)]
    have : i / 10 / 10 = i / 100 := by omega
    rw [this]
    rfl
  rw [show ((i : Int)).toNat = i from rfl, hd]
  unfold strOfNums
  have a0 : ((48 + ((i / 100 : Nat) : Int)) % 256).toNat = 48 + i / 100 := by omega
  have a1 : ((48 + ((i / 10 % 10 : Nat) : Int)) % 256).toNat = 48 + i / 10 % 10 := by omega
  have a2 : ((48 + ((i % 10 : Nat) : Int)) % 256).toNat = 48 + i % 10 := by omega
  simp only [List.map_cons, List.map_nil, a0, a1, a2]
theorem respFieldsS (n : Int) (l : List S78) (hl : ∀ x ∈ l, small x) : Ev (fun k => spec_ResponseFields.f k n l) (respFieldsP n l) := by
  unfold spec_ResponseFields.f
  cases h : respOkP n l with
  | false =>
    have e : respFieldsP n l = ([], 1) := by unfold respFieldsP; rw [h]; rfl
    rw [e]
    exact evBind (evCast (respOkS n l hl) h) (evNeg (by simp) (Ev.now _))
  | true =>
    have e : respFieldsP n l = ((⟨statusT, threeT n⟩ : S78) :: l, 0) := by unfold respFieldsP; rw [h]; rfl
    rw [e]
    obtain ⟨h1, h2⟩ := respOkP_is h
    exact evBind (evCast (respOkS n l hl) h) (evPos rfl (evPut (threeT_is n h1) (evPut rfl (evPos (by simp; omega) (Ev.now _)))))
theorem respFieldsI (n : Int) (l : List S78) (hl : ∀ x ∈ l, small x) : Ev (fun k => impl_ResponseFields.f k n l) (respFieldsP n l) := by
  unfold impl_ResponseFields.f
  cases h : respOkP n l with
  | false =>
    have e : respFieldsP n l = ([], 1) := by unfold respFieldsP; rw [h]; rfl
    rw [e]
    exact evBind (evCast (respOkI n l hl) h) (evNeg (by simp) (Ev.now _))
  | true =>
    have e : respFieldsP n l = ((⟨statusT, threeT n⟩ : S78) :: l, 0) := by unfold respFieldsP; rw [h]; rfl
    rw [e]
    obtain ⟨h1, h2⟩ := respOkP_is h
    have hi : strconv_Itoa.f n = some (threeT n) := by
      unfold strconv_Itoa.f
      rw [if_pos ⟨by omega, by omega⟩]
      rfl
    exact evBind (evCast (respOkI n l hl) h) (evPos rfl (evPut hi (evPut rfl (evPos (by simp; omega) (Ev.now _)))))
theorem respFields_len (n : Int) (l : List S78) (hl : l.length ≤ 1048576) : (respFieldsP n l).1.length ≤ 1048580 := by
  unfold respFieldsP
  split
  · simp; omega
  · simp
theorem eqResponse (n : Int) (l : List S78) (hl : l.length < 4611686018427387904) : Ev (fun k => laws_eqResponse.f k n l n l) true := by
  unfold laws_eqResponse.f
  exact evPos rfl (evBind (eqField l hl) (evPos rfl (Ev.now _)))
theorem FnExactResponseFields : laws_FnExactResponseFields.Stmt := by
  intro x hx
  obtain ⟨_, hl0, hg⟩ := hx
  refine evEnds ?_
  unfold laws_FnExactResponseFields.f
  obtain ⟨r, hr, _, hb⟩ := szFieldS x.f1 1048576 (by omega) (by omega) hl0 hg
  have hz : Ev (fun k => laws_szResponse.f k x.f0 x.f1 1048576) (if r < 0 then -1 else r) := by
    unfold laws_szResponse.f
    exact evBind hr (evSplit (fun h => evNow (by rw [if_pos h])) (fun h => evNow (by rw [if_neg h])))
  refine evBind hz (evSplit (fun _ => Ev.now _) (fun h => ?_))
  have hr0 : 0 ≤ r := by
    rcases Int.lt_or_le r 0 with hh | hh
    · rw [if_pos hh] at h
      omega
    · exact hh
  obtain ⟨b1, b2⟩ := hb hr0
  have t : Ev (fun k => laws_toResponse.f k x.f0 x.f1) (x.f0, x.f1.map ofField) := by
    unfold laws_toResponse.f
    exact evBind (toField x.f1 b1) (Ev.now _)
  have hl : (x.f1.map ofField).length ≤ 1048576 := by simpa using b1
  have hs := small_map x.f1 b2
  have gS := respFieldsS x.f0 (x.f1.map ofField) hs
  have gI := respFieldsI x.f0 (x.f1.map ofField) hs
  have gl := respFields_len x.f0 (x.f1.map ofField) hl
  generalize respFieldsP x.f0 (x.f1.map ofField) = g at gS gI gl
  have hgl : g.1.length < 4611686018427387904 := by omega
  have hll : (x.f1.map ofField).length < 4611686018427387904 := by omega
  obtain ⟨m1, q1, _, r1⟩ := markF (x.f1.map ofField) 1 (by omega) (by omega)
  obtain ⟨m2, q2, q3, r2⟩ := markF g.1 1 (by omega) (by omega)
  have h4 := heldF 1 m2 (by omega) (by omega) q3
  have r3 : Ev (fun k => laws_markResponse.f k x.f0 (x.f1.map ofField) 1) (1 + 2 * ((x.f1.map ofField).length : Int), m1) := by
    unfold laws_markResponse.f
    exact evBind r1 (Ev.now _)
  refine evBind t (evBind gS (evBind t (evBind gI (evBind (eqField _ hgl) (evPos rfl (evSucc ?_))))))
  simp only [laws_FnExactResponseFields.j0]
  refine evNeg (by simp) (evBind t (evBind (eqResponse _ _ hll) (evPos rfl (evBind r3 (evNeg (by simp only; omega) (evBind (eqField _ hgl) (evPos rfl (evSucc ?_))))))))
  simp only [laws_FnExactResponseFields.j1]
  refine evNeg (by simp) (evBind r2 (evBind h4 (evNeg (by omega) (evPos (by rw [q2]) (evBind t (evBind gI (evBind (eqField _ hgl) (evPos rfl (evSucc ?_)))))))))
  simp only [laws_FnExactResponseFields.j2]
  exact evNeg (by simp) (evBind h4 (evNeg (by omega) (evPos (by rw [q2]) (Ev.now _))))

end Go.Proofs.YtkcimmlaoipdkaaDoor.Pure
