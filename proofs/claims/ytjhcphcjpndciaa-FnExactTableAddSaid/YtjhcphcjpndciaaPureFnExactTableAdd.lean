/- The program's TableAdd answers what the reference's answers, in memory of its own, for every table and field; no condition. -/
import Derived.Test.YtjhcphcjpndciaaPFnExactTableAddx0
import Derived.Test.YtjhcphcjpndciaaPFnExactTableAddx1
import Derived.Test.YtjhcphcjpndciaaPFnExactTableAddx2
import Derived.Test.YtjhcphcjpndciaaPFnExactTableAddx3
import Derived.Test.YtjhcphcjpndciaaPFnExactTableAddx4
import Derived.Test.YtjhcphcjpndciaaPFnExactTableAddx5
import Derived.Test.YtjhcphcjpndciaaPFnExactTableAddx6
import Derived.Test.YtjhcphcjpndciaaPFnExactTableAddx7
import Derived.Test.YtjhcphcjpndciaaPFnExactTableAddx8
import Derived.Test.YtjhcphcjpndciaaPFnExactTableAddx9
import Derived.Test.YtjhcphcjpndciaaPFnExactTableAddx10
import Derived.Test.YtjhcphcjpndciaaStmtFnExactTableAdd
import Derived.Laws.BitsLemmas
import Derived.Laws.BitsAllLaws
set_option linter.unusedVariables false
set_option linter.unusedSimpArgs false
set_option maxRecDepth 4000
namespace Go.Proofs.Ytjhcphcjpndciaa.Pure
open Go.RowKit Go.Proofs.Ytjhcphcjpndciaa.PFnExactTableAdd Go.Proofs.YtjhcphcjpndciaaW.PrintWords Go.Proofs.YtjhcphcjpndciaaW.PrintLast Go.Proofs.YtjhcphcjpndciaaW.PrintMore

/-! ### tools: what a printed function comes to -/
theorem evSucc {α : Type} {g : Nat → Option α} {r : α} (h : Ev (fun k => g (k + 1)) r) : Ev g r := Ev.step (fun _ => rfl) h
theorem evPos {α : Type} {c : Prop} {dc : Decidable c} {a b : Nat → Option α} {r : α} (h : c) (e : Ev a r) : Ev (fun k => if c then a k else b k) r :=
  Ev.congr (fun _ => if_pos h) e
theorem evNeg {α : Type} {c : Prop} {dc : Decidable c} {a b : Nat → Option α} {r : α} (h : ¬ c) (e : Ev b r) : Ev (fun k => if c then a k else b k) r :=
  Ev.congr (fun _ => if_neg h) e
theorem evSplit {α : Type} {c : Prop} {dc : Decidable c} {a b : Nat → Option α} {r : α} (h : c → Ev a r) (h' : ¬ c → Ev b r) : Ev (fun k => if c then a k else b k) r := by
  by_cases hc : c
  · exact evPos hc (h hc)
  · exact evNeg hc (h' hc)
theorem evBind {α β : Type} {g : Nat → Option α} {f : Nat → α → Option β} {a : α} {r : β} (h : Ev g a) (k : Ev (fun n => f n a) r) : Ev (fun n => (g n).bind (f n)) r := Ev.bind h k
theorem evPut {α β : Type} {o : Option α} {f : Nat → α → Option β} {a : α} {r : β} (h : o = some a) (k : Ev (fun n => f n a) r) : Ev (fun n => o.bind (f n)) r :=
  Ev.congr (fun _ => by rw [h]; rfl) k
theorem evNow {α : Type} {r r' : α} (h : r = r') : Ev (fun _ => some r) r' := h ▸ Ev.now r
theorem evOf {α : Type} {o : Option α} {r : α} (h : o = some r) : Ev (fun _ => o) r := ⟨0, fun _ _ => h⟩
theorem evEnds {α : Type} {g : Nat → Option α} {r : α} (h : Ev g r) : ∃ k, g k = some r := Ev.rounds h
theorem w64 {x : Int} (h : -9223372036854775808 ≤ x) (h' : x ≤ 9223372036854775807) : wrap64 x = x := by unfold wrap64; omega
theorem w64succ (i : Nat) (h : i < 4611686018427387904) : wrap64 ((i : Int) + 1) = ((i + 1 : Nat) : Int) := by unfold wrap64; omega
theorem wfI {x : Int} (h : (Lit.int .i64 x).wf = true) : -9223372036854775808 ≤ x ∧ x ≤ 9223372036854775807 := by
  simp only [Lit.wf, IntKind.min, IntKind.max, IntKind.bits, IntKind.signed, Bool.and_eq_true, decide_eq_true_eq] at h
  simpa using h
theorem wfB {x : Int} (h : (Lit.int .u8 x).wf = true) : 0 ≤ x ∧ x ≤ 255 := by
  simp only [Lit.wf, IntKind.min, IntKind.max, IntKind.bits, IntKind.signed, Bool.and_eq_true, decide_eq_true_eq] at h
  simpa using h
theorem rdN (l : List Int) (i : Nat) (h : i < l.length) : rd l (i : Int) = l[i] := by simp [rd, List.getD_eq_getElem?_getD, h]
theorem fillStep {α : Type} (l : List α) (z : α) (i d : Nat) (h : i + (d + 1) = l.length) : (l.take i ++ List.replicate (d + 1) z).set i (l[i]'(by omega)) = l.take (i + 1) ++ List.replicate d z := by
  rw [List.set_append_right _ _ (by simp; omega), List.take_succ_eq_append_getElem (show i < l.length by omega), List.append_assoc]
  congr 1
  have e : i - (l.take i).length = 0 := by simp; omega
  rw [e]
  rfl
theorem evCast {α : Type} {g : Nat → Option α} {r r' : α} (h : Ev g r') (e : r' = r) : Ev g r := e ▸ h

/-! ### slices of Field: the copy, the comparison -/
def ofField (x : S78) : S23 := ⟨x.f0, x.f1⟩
theorem toField_loop (l : List S78) (hl : l.length < 4611686018427387904) : ∀ (d i : Nat), i + d = l.length → Ev (fun k => laws_toFieldS.l0 k l ((l.map ofField).take i ++ List.replicate d z23) (i : Int)) (l.map ofField) := by
  intro d
  induction d with
  | zero =>
    intro i h
    refine evSucc ?_
    simp only [laws_toFieldS.l0]
    refine evNeg (by omega) (evNow ?_)
    rw [List.take_of_length_le (by simp; omega)]; simp
  | succ d ih =>
    intro i h
    refine evSucc ?_
    simp only [laws_toFieldS.l0, laws_toField.f]
    refine evPos (by omega) (evPos (by omega) (evPut rfl (evPos (by simp; omega) ?_)))
    have e : (⟨(rd_T78 l (i : Int)).f0, (rd_T78 l (i : Int)).f1⟩ : S23) = (l.map ofField)[i]'(by simp; omega) := by
      simp [rd_T78, List.getD_eq_getElem?_getD, ofField, show i < l.length by omega]
    rw [w64succ i (by omega), Int.toNat_natCast]
    show Ev (fun k => laws_toFieldS.l0 k l (((l.map ofField).take i ++ List.replicate (d + 1) z23).set i ⟨(rd_T78 l (i : Int)).f0, (rd_T78 l (i : Int)).f1⟩) _) _
    rw [e, fillStep (l.map ofField) _ i d (by simp; omega)]
    exact ih (i + 1) (by omega)
theorem toField (l : List S78) (hl : l.length ≤ 1048576) : Ev (fun k => laws_toFieldS.f k l) (l.map ofField) := by
  unfold laws_toFieldS.f
  refine evPos (by omega) (evPos (by omega) ?_)
  have := toField_loop l (by omega) l.length 0 (by omega)
  simpa using this
theorem eqField1 (x : S23) : laws_eqField.f x.f0 x.f1 x.f0 x.f1 = some true := by
  unfold laws_eqField.f; simp
theorem eqField_loop (l : List S23) (hl : l.length < 4611686018427387904) : ∀ (d i : Nat), i + d = l.length → Ev (fun k => laws_eqFieldS.l0 k l l (i : Int)) true := by
  intro d
  induction d with
  | zero =>
    intro i h
    refine evSucc ?_
    simp only [laws_eqFieldS.l0]
    exact evNeg (by omega) (Ev.now _)
  | succ d ih =>
    intro i h
    refine evSucc ?_
    simp only [laws_eqFieldS.l0]
    refine evPos (by omega) (evPos (by omega) (evPos (by omega) (evPut (eqField1 _) (evPos rfl ?_))))
    rw [w64succ i (by omega)]
    exact ih (i + 1) (by omega)
theorem eqField (l : List S23) (hl : l.length < 4611686018427387904) : Ev (fun k => laws_eqFieldS.f k l l) true := by
  unfold laws_eqFieldS.f
  exact evPos rfl (eqField_loop l hl l.length 0 (by omega))

/-! ### fields: their sizes, and which are valid -/
def smallF (x : S78) : Prop := x.f0.size ≤ 1048576 ∧ x.f1.size ≤ 1048576
theorem szField_is (x : S78) (left : Int) (hl : 0 ≤ left ∧ left ≤ 1048576) (hx : good78 x) : ∃ r, laws_szField.f x.f0 x.f1 left = some r ∧ r ≤ 1048576 ∧ (0 ≤ r → smallF x) := by
  obtain ⟨h0, h1⟩ := hx
  unfold maxLen at h0 h1
  unfold laws_szField.f smallF
  rw [w64 (x := left - (x.f0.size : Int)) (by omega) (by omega)]
  by_cases h : left - (x.f0.size : Int) < 0
  · rw [if_pos h]
    exact ⟨-1, rfl, by omega, by omega⟩
  · rw [if_neg h, w64 (x := left - (x.f0.size : Int) - (x.f1.size : Int)) (by omega) (by omega)]
    by_cases h2 : left - (x.f0.size : Int) - (x.f1.size : Int) < 0
    · rw [if_pos h2]
      exact ⟨-1, rfl, by omega, by omega⟩
    · rw [if_neg h2]
      exact ⟨_, rfl, by omega, fun _ => by omega⟩
theorem rdFL (l : List S78) (i : Nat) (h : i < l.length) : rd_T78 l (i : Int) = l[i] := by simp [rd_T78, List.getD_eq_getElem?_getD, h]
theorem rdFI (l : List S23) (i : Nat) (h : i < l.length) : rd_T23 l (i : Int) = l[i] := by simp [rd_T23, List.getD_eq_getElem?_getD, h]
theorem szFieldS_loop (l : List S78) (hl : l.length ≤ 1048576) (hg : ∀ x ∈ l, good78 x) : ∀ (d i : Nat) (left : Int), i + d = l.length → 0 ≤ left → left ≤ 1048576 →
    ∃ r, Ev (fun k => laws_szFieldS.l0 k l left (i : Int)) r ∧ r ≤ 1048576 ∧ (0 ≤ r → ∀ x ∈ l.drop i, smallF x) := by
  intro d
  induction d with
  | zero =>
    intro i left h h0 h1
    refine ⟨left, evSucc ?_, h1, fun _ x hx => ?_⟩
    · simp only [laws_szFieldS.l0]
      exact evNeg (by omega) (Ev.now _)
    · rw [List.drop_of_length_le (by omega)] at hx
      simp at hx
  | succ d ih =>
    intro i left h h0 h1
    have hi : i < l.length := by omega
    obtain ⟨r, hr, hb, hs⟩ := szField_is l[i] left ⟨h0, h1⟩ (hg _ (List.getElem_mem hi))
    by_cases hn : r < 0
    · refine ⟨-1, evSucc ?_, by omega, by omega⟩
      simp only [laws_szFieldS.l0]
      rw [rdFL l i hi]
      exact evPos (by omega) (evPos (by omega) (evPut hr (evPos hn (Ev.now _))))
    · obtain ⟨q, hq, hqb, hqs⟩ := ih (i + 1) r (by omega) (by omega) hb
      refine ⟨q, evSucc ?_, hqb, fun h0 x hx => ?_⟩
      · simp only [laws_szFieldS.l0]
        rw [rdFL l i hi, w64succ i (by omega)]
        exact evPos (by omega) (evPos (by omega) (evPut hr (evNeg hn hq)))
      · rw [List.drop_eq_getElem_cons hi, List.mem_cons] at hx
        rcases hx with rfl | hx
        · exact hs (by omega)
        · exact hqs h0 x hx
/-- What is left of 2^20: the list is short, and so are its texts. -/
theorem szFieldS (l : List S78) (left : Int) (h0 : 0 ≤ left) (h1 : left ≤ 1048576) (hm : l.length ≤ maxLen) (hg : ∀ x ∈ l, good78 x) : ∃ r, Ev (fun k => laws_szFieldS.f k l left) r ∧ r ≤ 1048576 ∧ (0 ≤ r → l.length ≤ 1048576 ∧ ∀ x ∈ l, smallF x) := by
  unfold maxLen at hm
  unfold laws_szFieldS.f
  rw [w64 (x := left - (l.length : Int)) (by omega) (by omega)]
  by_cases h : left - (l.length : Int) < 0
  · exact ⟨-1, evPos h (Ev.now _), by omega, by omega⟩
  · obtain ⟨r, hr, hb, hs⟩ := szFieldS_loop l (by omega) hg l.length 0 (left - (l.length : Int)) (by omega) (by omega) (by omega)
    exact ⟨r, evNeg h hr, hb, fun h0 => ⟨by omega, by simpa using hs h0⟩⟩
def small (x : S23) : Prop := x.f0.size ≤ 1048576 ∧ x.f1.size ≤ 1048576
theorem small_map (l : List S78) (h : ∀ x ∈ l, smallF x) : ∀ x ∈ l.map ofField, small x := by
  intro x hx
  obtain ⟨y, hy, rfl⟩ := List.mem_map.1 hx
  exact h y hy
/-! which are valid -/
def charP (b : UInt8) : Bool := decide (33 ≤ b.toNat ∧ b.toNat ≤ 126 ∧ ¬ (65 ≤ b.toNat ∧ b.toNat ≤ 90))
def signP (b : UInt8) : Bool := !([0, 10, 13] : List UInt8).contains b
def nameP (s : ByteArray) : Bool := s.data.toList.all charP
def valP (s : ByteArray) : Bool := s.data.toList.all signP
def fieldP (n v : ByteArray) : Bool := decide (1 ≤ n.size ∧ n.size ≤ 64 ∧ v.size ≤ 1024) && (nameP n && valP v)
theorem lenD (s : ByteArray) : s.data.toList.length = s.size := by rw [Array.length_toList]; rfl
theorem btL (s : ByteArray) (i : Nat) (h : i < s.data.toList.length) : bt s (i : Int) = ((s.data.toList[i]).toNat : Int) := by
  have h2 : i < s.size := by rw [lenD] at h; exact h
  have e := bt_at s (i : Int) (by simpa using h2)
  rw [← e]
  rfl
theorem signIff (b : UInt8) : signP b = decide (¬ (b.toNat = 0) ∧ ¬ (b.toNat = 10) ∧ ¬ (b.toNat = 13)) := by
  have e : ∀ c : UInt8, (b = c) ↔ b.toNat = c.toNat := fun c => UInt8.toNat_inj.symm
  unfold signP
  rw [Bool.eq_iff_iff]
  simp only [List.contains_cons, List.contains_nil, Bool.or_false, Bool.not_eq_true', Bool.or_eq_false_iff, beq_eq_false_iff_ne, ne_eq, decide_eq_true_eq, e]
  exact Iff.rfl
theorem valS_loop (n v : ByteArray) (hv : v.size ≤ 100000000) : ∀ (d i : Nat), i + d = v.data.toList.length → Ev (fun k => spec_l14FieldOK.l1 k (i : Int) n v) ((v.data.toList.drop i).all signP) := by
  have hL := lenD v
  intro d
  induction d with
  | zero =>
    intro i h
    refine evSucc ?_
    simp only [spec_l14FieldOK.l1]
    rw [List.drop_of_length_le (by omega)]
    exact evNeg (by omega) (Ev.now _)
  | succ d ih =>
    intro i h
    have hi : i < v.data.toList.length := by omega
    refine evSucc ?_
    simp only [spec_l14FieldOK.l1]
    rw [btL v i hi, List.drop_eq_getElem_cons hi, List.all_cons, w64succ i (by omega)]
    refine evPos (by omega) (evPos (by omega) (evSplit (fun h1 => evNow ?_) (fun h1 => evSplit (fun h2 => evNow ?_) (fun h2 => evSplit (fun h3 => evNow ?_) (fun h3 => ?_)))))
    · rw [signIff, decide_eq_false (by omega)]; rfl
    · rw [signIff, decide_eq_false (by omega)]; rfl
    · rw [signIff, decide_eq_false (by omega)]; rfl
    · rw [signIff, decide_eq_true (by omega), Bool.true_and]
      exact ih (i + 1) (by omega)
theorem nameS_loop (n v : ByteArray) (hn : n.size ≤ 100000000) (hv : v.size ≤ 100000000) : ∀ (d i : Nat), i + d = n.data.toList.length → Ev (fun k => spec_l14FieldOK.l0 k (i : Int) n v) ((n.data.toList.drop i).all charP && valP v) := by
  have hL := lenD n
  intro d
  induction d with
  | zero =>
    intro i h
    refine evSucc ?_
    simp only [spec_l14FieldOK.l0]
    rw [List.drop_of_length_le (by omega)]
    refine evNeg (by omega) ?_
    exact valS_loop n v hv v.data.toList.length 0 (by omega)
  | succ d ih =>
    intro i h
    have hi : i < n.data.toList.length := by omega
    refine evSucc ?_
    simp only [spec_l14FieldOK.l0]
    rw [btL n i hi, List.drop_eq_getElem_cons hi, List.all_cons, w64succ i (by omega)]
    have good : charP (n.data.toList[i]) = true → Ev (fun k => spec_l14FieldOK.l0 k ((i + 1 : Nat) : Int) n v) (charP (n.data.toList[i]) && ((n.data.toList.drop (i + 1)).all charP) && valP v) := by
      intro hc
      rw [hc, Bool.true_and]
      exact ih (i + 1) (by omega)
    refine evPos (by omega) (evPos (by omega) (evSplit (fun h1 => evNow ?_) (fun h1 => evSplit (fun h2 => evNow ?_) (fun h2 => evSplit (fun h3 => evSplit (fun h4 => evNow ?_) (fun h4 => good ?_)) (fun h3 => good ?_)))))
    · rw [show charP (n.data.toList[i]) = false from decide_eq_false (by omega)]; rfl
    · rw [show charP (n.data.toList[i]) = false from decide_eq_false (by omega)]; rfl
    · rw [show charP (n.data.toList[i]) = false from decide_eq_false (by omega)]; rfl
    · exact decide_eq_true (by omega)
    · exact decide_eq_true (by omega)
theorem fieldS (n v : ByteArray) : Ev (fun k => spec_l14FieldOK.f k n v) (fieldP n v) := by
  have bad : ∀ q, q = false → Ev (fun k => spec_l14FieldOK.j0 k true n v) q := by
    intro q hq
    refine evSucc ?_
    simp only [spec_l14FieldOK.j0]
    exact evPos (by first | rfl | trivial) (evNow hq.symm)
  unfold spec_l14FieldOK.f fieldP
  refine evSplit (fun h1 => bad _ ?_) (fun h1 => evSplit (fun h2 => bad _ ?_) (fun h2 => ?_))
  · rw [decide_eq_false (by omega)]; rfl
  · rw [decide_eq_false (by omega)]; rfl
  · by_cases h3 : v.size ≤ 1024
    · rw [decide_eq_false (show ¬ (v.size : Int) > 1024 by omega), decide_eq_true (by omega), Bool.true_and]
      refine evSucc ?_
      simp only [spec_l14FieldOK.j0]
      exact evNeg (by simp) (nameS_loop n v (by omega) (by omega) n.data.toList.length 0 (by omega))
    · rw [decide_eq_true (show (v.size : Int) > 1024 by omega), decide_eq_false (by omega)]
      exact bad _ rfl
theorem anyIdx (chars : List UInt8) : ∀ l : List UInt8, Go.Lib.containsAny l chars = l.any fun b => chars.contains b := by
  intro l
  unfold Go.Lib.containsAny
  induction l with
  | nil => rfl
  | cons b l ih =>
    have hg := Go.Lib.indexAny_ge chars l
    rw [Go.Lib.indexAny, List.any_cons]
    cases hb : chars.contains b
    · simp only [Bool.false_eq_true, if_false, Bool.false_or]
      rw [← ih]
      by_cases he : Go.Lib.indexAny l chars = -1
      · rw [he]; simp
      · rw [if_neg (by simpa using he)]
        exact decide_eq_decide.2 (by omega)
    · simp
theorem valI (v : ByteArray) : impl_valueOK.f v = some (decide (v.size ≤ 1024) && valP v) := by
  unfold impl_valueOK.f strings_ContainsAny.f
  by_cases h : v.size ≤ 1024
  · rw [if_pos (by omega), if_pos ⟨by decide, by decide, by omega, by decide⟩]
    simp only [Option.bind_some]
    rw [decide_eq_true h, Bool.true_and, anyIdx]
    congr 1
    unfold valP
    generalize v.data.toList = l
    induction l with
    | nil => rfl
    | cons b l ih => rw [List.any_cons, List.all_cons, ← ih, signP, Bool.not_or]
  · rw [if_neg (by omega), decide_eq_false h]
    rfl
theorem nameI_loop (n v : ByteArray) (hn : n.size ≤ 100000000) : ∀ (d i : Nat), i + d = n.data.toList.length → Ev (fun k => impl_fieldOK.l0 k (n.size : Int) (i : Int) n v) ((n.data.toList.drop i).all charP && (decide (v.size ≤ 1024) && valP v)) := by
  have hL := lenD n
  intro d
  induction d with
  | zero =>
    intro i h
    refine evSucc ?_
    simp only [impl_fieldOK.l0, valI]
    rw [List.drop_of_length_le (by omega)]
    exact evNeg (by omega) (evPut rfl (Ev.now _))
  | succ d ih =>
    intro i h
    have hi : i < n.data.toList.length := by omega
    refine evSucc ?_
    simp only [impl_fieldOK.l0]
    rw [btL n i hi, List.drop_eq_getElem_cons hi, List.all_cons, w64succ i (by omega)]
    have good : charP (n.data.toList[i]) = true → Ev (fun k => impl_fieldOK.l0 k (n.size : Int) ((i + 1 : Nat) : Int) n v) (charP (n.data.toList[i]) && ((n.data.toList.drop (i + 1)).all charP) && (decide (v.size ≤ 1024) && valP v)) := by
      intro hc
      rw [hc, Bool.true_and]
      exact ih (i + 1) (by omega)
    refine evPos (by omega) (evPos (by omega) (evPos (by omega) (evSplit (fun h1 => evNow ?_) (fun h1 => evSplit (fun h2 => evNow ?_) (fun h2 => evSplit (fun h3 => evSplit (fun h4 => evNow ?_) (fun h4 => good ?_)) (fun h3 => good ?_))))))
    · rw [show charP (n.data.toList[i]) = false from decide_eq_false (by omega)]; rfl
    · rw [show charP (n.data.toList[i]) = false from decide_eq_false (by omega)]; rfl
    · rw [show charP (n.data.toList[i]) = false from decide_eq_false (by omega)]; rfl
    · exact decide_eq_true (by omega)
    · exact decide_eq_true (by omega)
theorem fieldI (n v : ByteArray) : Ev (fun k => impl_fieldOK.f k n v) (fieldP n v) := by
  have bad : ∀ q, q = false → Ev (fun k => impl_fieldOK.j0 k true n v) q := by
    intro q hq
    refine evSucc ?_
    simp only [impl_fieldOK.j0]
    exact evPos (by first | rfl | trivial) (evNow hq.symm)
  unfold impl_fieldOK.f fieldP
  refine evSplit (fun h1 => bad _ ?_) (fun h1 => ?_)
  · rw [decide_eq_false (by omega)]; rfl
  · by_cases h2 : n.size ≤ 64
    · rw [decide_eq_false (show ¬ (n.size : Int) > 64 by omega)]
      refine evSucc ?_
      simp only [impl_fieldOK.j0]
      refine evNeg (by simp) (evCast (nameI_loop n v (by omega) n.data.toList.length 0 (by omega)) ?_)
      rw [List.drop_zero]
      show (nameP n && (decide (v.size ≤ 1024) && valP v)) = _
      by_cases h3 : v.size ≤ 1024
      · rw [decide_eq_true h3, decide_eq_true (by omega), Bool.true_and, Bool.true_and]
      · rw [decide_eq_false h3, decide_eq_false (by omega)]; simp
    · rw [decide_eq_true (show (n.size : Int) > 64 by omega), decide_eq_false (by omega)]
      exact bad _ rfl

/-! ### which tables are valid -/
def costP (x : S23) : Int := 32 + (x.f0.size : Int) + (x.f1.size : Int)
def costsP : List S23 → Int
  | [] => 0
  | x :: l => costP x + costsP l
theorem costP_ge (x : S23) : 32 ≤ costP x := by unfold costP; omega
theorem costsP_ge (l : List S23) : 32 * (l.length : Int) ≤ costsP l := by
  induction l with
  | nil => simp [costsP]
  | cons x l ih => have := costP_ge x; simp only [costsP, List.length_cons]; omega
theorem costsP_le (l : List S23) (h : ∀ x ∈ l, small x) : costsP l ≤ 2097184 * (l.length : Int) := by
  induction l with
  | nil => simp [costsP]
  | cons x l ih =>
    have h1 := h x (by simp)
    have h2 := ih (fun y hy => h y (by simp [hy]))
    unfold small at h1
    simp only [costsP, costP, List.length_cons]
    omega
theorem costsP_app (l m : List S23) : costsP (l ++ m) = costsP l + costsP m := by
  induction l with
  | nil => simp [costsP]
  | cons x l ih => simp only [List.cons_append, costsP, ih]; omega
theorem costI (x : S23) (h : small x) : impl_costOf.f x.f0 x.f1 = some (costP x) := by
  unfold small at h
  unfold impl_costOf.f costP
  rw [w64 (x := 32 + (x.f0.size : Int)) (by omega) (by omega), w64 (by omega) (by omega)]
theorem costS (x : S23) (h : small x) : spec_l14Cost.f x.f0 x.f1 = some (costP x) := by
  unfold small at h
  unfold spec_l14Cost.f costP
  rw [w64 (x := 32 + (x.f0.size : Int)) (by omega) (by omega), w64 (by omega) (by omega)]
theorem costsS_loop (l : List S23) (hl : l.length ≤ 1048576) (hs : ∀ x ∈ l, small x) : ∀ (d i : Nat) (c : Int), i + d = l.length → c = costsP (l.take i) → Ev (fun k => spec_l14Costs.l0 k l c (i : Int)) (costsP l) := by
  intro d
  induction d with
  | zero =>
    intro i c h hc
    refine evSucc ?_
    simp only [spec_l14Costs.l0]
    refine evNeg (by omega) (evNow ?_)
    rw [hc, List.take_of_length_le (by omega)]
  | succ d ih =>
    intro i c h hc
    have hi : i < l.length := by omega
    have hx := hs _ (List.getElem_mem hi)
    have h1 := costsP_le (l.take i) (fun x hx => hs x (List.mem_of_mem_take hx))
    have h2 := costsP_ge (l.take i)
    have h3 := costP_ge l[i]
    have h4 : costP l[i] ≤ 2097184 := by unfold small at hx; unfold costP; omega
    rw [List.length_take] at h1 h2
    refine evSucc ?_
    simp only [spec_l14Costs.l0]
    rw [rdFI l i hi, w64succ i (by omega)]
    refine evPos (by omega) (evPos (by omega) (evPut (costS _ hx) ?_))
    rw [w64 (x := c + costP l[i]) (by omega) (by omega)]
    refine ih (i + 1) _ (by omega) ?_
    rw [List.take_succ_eq_append_getElem hi, costsP_app, hc]
    simp [costsP]
theorem costsS (l : List S23) (hl : l.length ≤ 1048576) (hs : ∀ x ∈ l, small x) : Ev (fun k => spec_l14Costs.f k l) (costsP l) := by
  unfold spec_l14Costs.f
  exact costsS_loop l hl hs l.length 0 0 (by omega) rfl
def okF (x : S23) : Bool := fieldP x.f0 x.f1
def headP (m c a n : Int) : Prop := 0 ≤ m ∧ m ≤ 4096 ∧ 0 ≤ c ∧ c ≤ m ∧ n ≤ a ∧ a ≤ 4611686018427387902
instance (m c a n : Int) : Decidable (headP m c a n) := by unfold headP; infer_instance
def tableP (m c a : Int) (l : List S23) : Bool := decide (headP m c a l.length) && (l.all okF && decide (costsP l ≤ c))
theorem tableS_loop (m c a : Int) (l : List S23) (hl : l.length ≤ 1048576) (hs : ∀ x ∈ l, small x) : ∀ (d i : Nat), i + d = l.length → Ev (fun k => spec_TableOK.l0 k (i : Int) m c a l) ((l.drop i).all okF && decide (costsP l ≤ c)) := by
  intro d
  induction d with
  | zero =>
    intro i h
    refine evSucc ?_
    simp only [spec_TableOK.l0]
    rw [List.drop_of_length_le (by omega)]
    exact evNeg (by omega) (evBind (costsS l hl hs) (Ev.now _))
  | succ d ih =>
    intro i h
    have hi : i < l.length := by omega
    refine evSucc ?_
    simp only [spec_TableOK.l0]
    rw [rdFI l i hi, w64succ i (by omega), List.drop_eq_getElem_cons hi, List.all_cons]
    refine evPos (by omega) (evPos (by omega) (evBind (fieldS _ _) (evSplit (fun h1 => ?_) (fun h1 => evNow ?_))))
    · rw [show okF l[i] = true from h1, Bool.true_and]
      exact ih (i + 1) (by omega)
    · rw [show okF l[i] = false from Bool.eq_false_iff.2 h1]; rfl
theorem tableS (m c a : Int) (l : List S23) (hl : l.length ≤ 1048576) (hs : ∀ x ∈ l, small x) : Ev (fun k => spec_TableOK.f k m c a l) (tableP m c a l) := by
  have bad : tableP m c a l = false → Ev (fun k => spec_TableOK.j0 k true m c a l) (tableP m c a l) := by
    intro hq
    rw [hq]
    refine evSucc ?_
    simp only [spec_TableOK.j0]
    exact evPos (by first | rfl | trivial) (Ev.now _)
  have no : ¬ headP m c a l.length → tableP m c a l = false := by
    intro h
    unfold tableP
    rw [decide_eq_false h]; rfl
  unfold spec_TableOK.f
  refine evSplit (fun h => bad (no (by unfold headP; omega))) (fun h1 => evSplit (fun h => bad (no (by unfold headP; omega))) (fun h2 => evSplit (fun h => bad (no (by unfold headP; omega))) (fun h3 => evSplit (fun h => bad (no (by unfold headP; omega))) (fun h4 => evSplit (fun h => bad (no (by unfold headP; omega))) (fun h5 => evSplit (fun h => bad (no (by unfold headP; omega))) (fun h6 => ?_))))))
  by_cases h7 : l.length ≤ 4096
  · rw [decide_eq_false (show ¬ (l.length : Int) > 4096 by omega)]
    refine evSucc ?_
    simp only [spec_TableOK.j0]
    refine evNeg (by simp) (evCast (tableS_loop m c a l hl hs l.length 0 (by omega)) ?_)
    unfold tableP
    rw [decide_eq_true (show headP m c a l.length by unfold headP; omega)]
    simp
  · rw [decide_eq_true (show (l.length : Int) > 4096 by omega)]
    have := costsP_ge l
    refine bad ?_
    unfold tableP
    rw [decide_eq_false (show ¬ costsP l ≤ c by omega)]
    simp
theorem tableI_loop (m c a : Int) (l : List S23) (hc : c ≤ 4096) (hl : l.length ≤ 1048576) (hs : ∀ x ∈ l, small x) : ∀ (d i : Nat) (q : Int), i + d = l.length → 0 ≤ q → q ≤ c → Ev (fun k => impl_TableOK.l0 k q l (l.length : Int) (i : Int) m c a l) ((l.drop i).all okF && decide (q + costsP (l.drop i) ≤ c)) := by
  intro d
  induction d with
  | zero =>
    intro i q h h0 h1
    refine evSucc ?_
    simp only [impl_TableOK.l0]
    rw [List.drop_of_length_le (by omega)]
    refine evNeg (by omega) (evNow ?_)
    rw [decide_eq_true (by simp only [costsP]; omega)]; rfl
  | succ d ih =>
    intro i q h h0 h1
    have hi : i < l.length := by omega
    have hx := hs _ (List.getElem_mem hi)
    have h3 := costP_ge l[i]
    have h4 : costP l[i] ≤ 2097184 := by unfold small at hx; unfold costP; omega
    have h5 := costsP_ge (l.drop (i + 1))
    refine evSucc ?_
    simp only [impl_TableOK.l0]
    rw [rdFI l i hi, w64succ i (by omega), List.drop_eq_getElem_cons hi, List.all_cons, costsP]
    refine evPos (by omega) (evPos (by omega) (evPos (by omega) (evPut (costI _ hx) ?_)))
    rw [w64 (x := q + costP l[i]) (by omega) (by omega)]
    refine evSplit (fun h6 => evNow ?_) (fun h6 => evBind (fieldI _ _) (evSplit (fun h7 => ?_) (fun h7 => evNow ?_)))
    · rw [decide_eq_false (by omega)]; simp
    · rw [show okF l[i] = true from h7, Bool.true_and]
      refine evCast (ih (i + 1) (q + costP l[i]) (by omega) (by omega) (by omega)) ?_
      rw [show q + (costP l[i] + costsP (l.drop (i + 1))) = q + costP l[i] + costsP (l.drop (i + 1)) by omega]
    · rw [show okF l[i] = false from Bool.eq_false_iff.2 h7]; rfl
theorem tableI (m c a : Int) (l : List S23) (hl : l.length ≤ 1048576) (hs : ∀ x ∈ l, small x) : Ev (fun k => impl_TableOK.f k m c a l) (tableP m c a l) := by
  have bad : tableP m c a l = false → Ev (fun k => impl_TableOK.j0 k true m c a l) (tableP m c a l) := by
    intro hq
    rw [hq]
    refine evSucc ?_
    simp only [impl_TableOK.j0]
    exact evPos (by first | rfl | trivial) (Ev.now _)
  have no : ¬ headP m c a l.length → tableP m c a l = false := by
    intro h
    unfold tableP
    rw [decide_eq_false h]; rfl
  unfold impl_TableOK.f
  refine evSplit (fun h => bad (no (by unfold headP; omega))) (fun h1 => evSplit (fun h => bad (no (by unfold headP; omega))) (fun h2 => evSplit (fun h => bad (no (by unfold headP; omega))) (fun h3 => evSplit (fun h => bad (no (by unfold headP; omega))) (fun h4 => evSplit (fun h => bad (no (by unfold headP; omega))) (fun h5 => ?_)))))
  by_cases h6 : a ≤ 4611686018427387902
  · rw [decide_eq_false (show ¬ a > 4611686018427387902 by omega)]
    refine evSucc ?_
    simp only [impl_TableOK.j0]
    refine evNeg (by simp) (evCast (tableI_loop m c a l (by omega) hl hs l.length 0 0 (by omega) (by omega) (by omega)) ?_)
    unfold tableP
    rw [decide_eq_true (show headP m c a l.length by unfold headP; omega)]
    simp
  · rw [decide_eq_true (show a > 4611686018427387902 by omega)]
    exact bad (no (by unfold headP; omega))
theorem szT (m c a : Int) (l : List S78) (left : Int) (h0 : 0 ≤ left) (h1 : left ≤ 1048576) (hm : l.length ≤ maxLen) (hg : ∀ x ∈ l, good78 x) : ∃ r, Ev (fun k => laws_szTable.f k m c a l left) r ∧ r ≤ 1048576 ∧ (0 ≤ r → l.length ≤ 1048576 ∧ ∀ x ∈ l, smallF x) := by
  obtain ⟨r, hr, hb, hs⟩ := szFieldS l left h0 h1 hm hg
  unfold laws_szTable.f
  by_cases h : r < 0
  · exact ⟨-1, evBind hr (evPos h (Ev.now _)), by omega, by omega⟩
  · exact ⟨r, evBind hr (evNeg h (Ev.now _)), hb, hs⟩
theorem toT (m c a : Int) (l : List S78) (hl : l.length ≤ 1048576) : Ev (fun k => laws_toTable.f k m c a l) (m, c, a, l.map ofField) := by
  unfold laws_toTable.f
  exact evBind (toField l hl) (Ev.now _)
theorem eqT (m c a : Int) (l : List S23) (hl : l.length < 4611686018427387904) : Ev (fun k => laws_eqTable.f k m c a l m c a l) true := by
  unfold laws_eqTable.f
  exact evPos rfl (evPos rfl (evPos rfl (evBind (eqField l hl) (evPos rfl (Ev.now _)))))
theorem tableP_head {m c a : Int} {l : List S23} (h : tableP m c a l = true) : headP m c a l.length := by
  unfold tableP at h
  rw [Bool.and_eq_true] at h
  exact of_decide_eq_true h.1

/-! ### a table that is made smaller -/
def fitP : List S23 → Int → List S23
  | [], _ => []
  | x :: l, n => if costsP (x :: l) > n then fitP l n else x :: l
theorem fitP_len (l : List S23) (n : Int) : (fitP l n).length ≤ l.length := by
  induction l with
  | nil => simp [fitP]
  | cons x l ih => unfold fitP; split <;> simp; omega
theorem fitS_loop (n : Int) : ∀ (l : List S23), l.length ≤ 1048576 → (∀ x ∈ l, small x) → Ev (fun k => spec_l14Fit.l0 k n l) (fitP l n) := by
  intro l
  induction l with
  | nil =>
    intro _ _
    refine evSucc ?_
    simp only [spec_l14Fit.l0]
    exact evNeg (by simp) (evPut rfl (evPos (by simp) (Ev.now _)))
  | cons x l ih =>
    intro hl hs
    simp only [List.length_cons] at hl
    refine evSucc ?_
    simp only [spec_l14Fit.l0, List.length_cons]
    refine evPos (by omega) (evBind (costsS (x :: l) (by simp; omega) hs) (evSplit (fun h => evPos (by omega) ?_) (fun h => evPut rfl (evPos (by simp; omega) (evNow ?_)))))
    · refine evCast (ih (by omega) (fun y hy => hs y (by simp [hy]))) ?_
      rw [fitP, if_pos h]
    · rw [fitP, if_neg h]; rfl
theorem fitS (l : List S23) (n : Int) (hl : l.length ≤ 1048576) (hs : ∀ x ∈ l, small x) : Ev (fun k => spec_l14Fit.f k l n) (fitP l n) := by
  unfold spec_l14Fit.f
  exact evPut rfl (evPos (by simp; omega) (by simpa using fitS_loop n l hl hs))
theorem sumI_loop (l : List S23) (hl : l.length ≤ 1048576) (hs : ∀ x ∈ l, small x) : ∀ (d i : Nat) (c : Int), i + d = l.length → c = costsP (l.take i) → Ev (fun k => impl_Table_cost.l0 k c l (l.length : Int) (i : Int)) (costsP l) := by
  intro d
  induction d with
  | zero =>
    intro i c h hc
    refine evSucc ?_
    simp only [impl_Table_cost.l0]
    refine evNeg (by omega) (evNow ?_)
    rw [hc, List.take_of_length_le (by omega)]
  | succ d ih =>
    intro i c h hc
    have hi : i < l.length := by omega
    have hx := hs _ (List.getElem_mem hi)
    have h1 := costsP_le (l.take i) (fun x hx => hs x (List.mem_of_mem_take hx))
    have h2 := costsP_ge (l.take i)
    have h3 := costP_ge l[i]
    have h4 : costP l[i] ≤ 2097184 := by unfold small at hx; unfold costP; omega
    rw [List.length_take] at h1 h2
    refine evSucc ?_
    simp only [impl_Table_cost.l0]
    rw [rdFI l i hi, w64succ i (by omega)]
    refine evPos (by omega) (evPos (by omega) (evPos (by omega) (evPut (costI _ hx) ?_)))
    rw [w64 (x := c + costP l[i]) (by omega) (by omega)]
    refine ih (i + 1) _ (by omega) ?_
    rw [List.take_succ_eq_append_getElem hi, costsP_app, hc]
    simp [costsP]
theorem fitI_loop (m c a room : Int) (l0 : List S23) (hc : room ≤ c) (hc1 : c ≤ 4096) (hr : 0 ≤ room) : ∀ (l : List S23), l.length ≤ 1048576 → (∀ x ∈ l, small x) → Ev (fun k => impl_Table_fitted.l0 k room l (costsP l) m c a l0) (m, c, a, fitP l (c - room)) := by
  intro l
  induction l with
  | nil =>
    intro _ _
    refine evSucc ?_
    simp only [impl_Table_fitted.l0, costsP]
    rw [w64 (x := c - room) (by omega) (by omega)]
    exact evNeg (by omega) (evPut rfl (evPos (by simp) (Ev.now _)))
  | cons x l ih =>
    intro hl hs
    simp only [List.length_cons] at hl
    have hx := hs x (by simp)
    have h1 := costsP_le (x :: l) hs
    have h2 := costsP_ge (x :: l)
    have h3 := costsP_ge l
    have h4 := costP_ge x
    simp only [List.length_cons] at h1 h2
    refine evSucc ?_
    simp only [impl_Table_fitted.l0, List.length_cons]
    rw [w64 (x := c - room) (by omega) (by omega), fitP]
    have e0 : rd_T23 (x :: l) 0 = x := rfl
    rw [e0]
    have ec : costsP (x :: l) = costP x + costsP l := rfl
    refine evSplit (fun h => evPos (by omega) (evPut (costI x hx) (evPos (by omega) ?_))) (fun h => evPut rfl (evPos (by simp; omega) (evNow ?_)))
    · rw [w64 (x := costsP (x :: l) - costP x) (by omega) (by omega), if_pos h, show costsP (x :: l) - costP x = costsP l by omega]
      exact ih (by omega) (fun y hy => hs y (by simp [hy]))
    · rw [if_neg h]; rfl
theorem fitI (m c a room : Int) (l : List S23) (hc : room ≤ c) (hc1 : c ≤ 4096) (hr : 0 ≤ room) (hl : l.length ≤ 1048576) (hs : ∀ x ∈ l, small x) : Ev (fun k => impl_Table_fitted.f k m c a l room) (m, c, a, fitP l (c - room)) := by
  unfold impl_Table_fitted.f impl_Table_cost.f
  exact evBind (sumI_loop l hl hs l.length 0 0 (by omega) rfl) (fitI_loop m c a room l hc hc1 hr l hl hs)

/-! the marks on fields -/
theorem markT_loop : ∀ (d : Nat) (n : Int) (s : ByteArray), 0 ≤ n → n ≤ 10000000000 → n < 10 ^ d → s.size + d ≤ 100 → ∃ t, Ev (fun k => laws_markText.l0 k n s) t := by
  intro d
  induction d with
  | zero =>
    intro n s h0 hb h1 h2
    refine ⟨(⟨#[109]⟩ : ByteArray) ++ s, evSucc ?_⟩
    simp only [laws_markText.l0]
    exact evNeg (by omega) (evPos (by omega) (Ev.now _))
  | succ d ih =>
    intro n s h0 hb h1 h2
    by_cases hn : n > 0
    · have e1 : Int.tdiv n 10 = n / 10 := Int.tdiv_eq_ediv_of_nonneg h0
      have hs1 : ∀ x : Int, (strOfNums [x]).size = 1 := fun x => rfl
      have hw : wrap64 (n / 10) = n / 10 := w64 (by omega) (by omega)
      obtain ⟨t, ht⟩ := ih (n / 10) (strOfNums [(wrap64 (48 + (Int.tmod n 10))) % 256] ++ s) (by omega) (by omega) (by rw [Int.pow_succ] at h1; omega) (by rw [ByteArray.size_append, hs1]; omega)
      refine ⟨t, evSucc ?_⟩
      simp only [laws_markText.l0]
      rw [e1, hw]
      exact evPos hn (evPut rfl (evPos (by rw [hs1]; omega) ht))
    · refine ⟨(⟨#[109]⟩ : ByteArray) ++ s, evSucc ?_⟩
      simp only [laws_markText.l0]
      exact evNeg hn (evPos (by omega) (Ev.now _))
/-- What a mark reads as: one text for each number. -/
def MarkT (v : Int) (t : ByteArray) : Prop := Ev (fun k => laws_markText.f k v) t
theorem markT (v : Int) (h0 : 0 ≤ v) (h1 : v ≤ 9000000000) : ∃ t, MarkT v t := by
  unfold MarkT laws_markText.f
  by_cases h : v ≤ 0
  · exact ⟨_, evPos h (Ev.now _)⟩
  · obtain ⟨t, ht⟩ := markT_loop 10 v ⟨#[]⟩ h0 (by omega) (by omega) (by show 0 + 10 ≤ 100; omega)
    exact ⟨t, evNeg h ht⟩
def MarkedF (m : Int) (j : Nat) (x : S23) : Prop := MarkT (m + 2 * j) x.f0 ∧ MarkT (m + 2 * j + 1) x.f1
theorem markF_loop (m : Int) (n : Nat) (h0 : 0 ≤ m) (hm : m + 2 * n < 1000000000) : ∀ (d i : Nat) (l : List S23), i + d = n → l.length = n → (∀ (j : Nat) (h : j < l.length), j < i → MarkedF m j (l[j]'h)) →
    ∃ l' : List S23, l'.length = n ∧ (∀ (j : Nat) (h : j < l'.length), MarkedF m j (l'[j]'h)) ∧ Ev (fun k => laws_markFieldS.l0 k l (m + 2 * i) (i : Int)) (m + 2 * n, l') := by
  intro d
  induction d with
  | zero =>
    intro i l h hl hj
    refine ⟨l, hl, fun j hj' => hj j hj' (by omega), evSucc ?_⟩
    simp only [laws_markFieldS.l0]
    refine evNeg (by omega) (evNow ?_)
    have : i = n := by omega
    rw [this]
  | succ d ih =>
    intro i l h hl hj
    have hi : i < l.length := by omega
    obtain ⟨t1, h1⟩ := markT (m + 2 * i) (by omega) (by omega)
    obtain ⟨t2, h2⟩ := markT (m + 2 * i + 1) (by omega) (by omega)
    obtain ⟨l', hl', hj', e⟩ := ih (i + 1) (l.set i ⟨t1, t2⟩) (by omega) (by simpa using hl) (by
      intro j hj1 hlt
      by_cases hji : j = i
      · subst hji
        simp only [List.getElem_set_self]
        exact ⟨h1, h2⟩
      · rw [List.getElem_set_ne (by omega)]
        exact hj j (by simpa using hj1) (by omega))
    refine ⟨l', hl', hj', evSucc ?_⟩
    simp only [laws_markFieldS.l0]
    refine evPos (by omega) (evBind h1 (evPos (by omega) (evPut rfl ?_)))
    rw [w64 (x := m + 2 * (i : Int) + 1) (by omega) (by omega), w64 (x := m + 2 * (i : Int) + 1 + 1) (by omega) (by omega), w64succ i (by omega), Int.toNat_natCast]
    refine evBind h2 ?_
    have e1 : rd_T23 (l.set i ⟨t1, (rd_T23 l (i : Int)).f1⟩) (i : Int) = ⟨t1, (rd_T23 l (i : Int)).f1⟩ := by
      rw [rdFI _ i (by simpa using hi)]
      simp
    rw [e1, List.set_set]
    have e2 : m + 2 * (i : Int) + 1 + 1 = m + 2 * ((i + 1 : Nat) : Int) := by omega
    rw [e2]
    exact e
theorem markF (l : List S23) (m : Int) (h0 : 0 ≤ m) (hm : m + 2 * l.length < 1000000000) :
    ∃ l' : List S23, l'.length = l.length ∧ (∀ (j : Nat) (h : j < l'.length), MarkedF m j (l'[j]'h)) ∧ Ev (fun k => laws_markFieldS.f k l m) (m + 2 * l.length, l') := by
  obtain ⟨l', h1, h2, h3⟩ := markF_loop m l.length h0 hm l.length 0 l (by omega) rfl (fun j _ h => by omega)
  refine ⟨l', h1, h2, ?_⟩
  unfold laws_markFieldS.f
  simpa using h3
theorem heldF_loop (m : Int) (l : List S23) (h0 : 0 ≤ m) (hm : m + 2 * l.length < 1000000000) (hj : ∀ (j : Nat) (h : j < l.length), MarkedF m j (l[j]'h)) :
    ∀ (d i : Nat), i + d = l.length → Ev (fun k => laws_heldFieldS.l0 k l (m + 2 * i) (i : Int)) (m + 2 * l.length) := by
  intro d
  induction d with
  | zero =>
    intro i h
    refine evSucc ?_
    simp only [laws_heldFieldS.l0]
    refine evNeg (by omega) (evNow ?_)
    have : i = l.length := by omega
    rw [this]
  | succ d ih =>
    intro i h
    have hi : i < l.length := by omega
    obtain ⟨h1, h2⟩ := hj i hi
    refine evSucc ?_
    simp only [laws_heldFieldS.l0]
    rw [rdFI l i hi, w64 (x := m + 2 * (i : Int) + 1) (by omega) (by omega), w64 (x := m + 2 * (i : Int) + 1 + 1) (by omega) (by omega), w64succ i (by omega)]
    refine evPos (by omega) (evPos (by omega) (evBind h1 (evPos rfl (evBind h2 (evPos rfl ?_)))))
    have e2 : m + 2 * (i : Int) + 1 + 1 = m + 2 * ((i + 1 : Nat) : Int) := by omega
    rw [e2]
    exact ih (i + 1) (by omega)
theorem heldF (m : Int) (l : List S23) (h0 : 0 ≤ m) (hm : m + 2 * l.length < 1000000000) (hj : ∀ (j : Nat) (h : j < l.length), MarkedF m j (l[j]'h)) : Ev (fun k => laws_heldFieldS.f k l m) (m + 2 * l.length) := by
  unfold laws_heldFieldS.f
  have := heldF_loop m l h0 hm hj l.length 0 (by omega)
  simpa using this
theorem markTab (m c a : Int) (l : List S23) (q : Int) (h0 : 0 ≤ q) (hm : q + 2 * l.length < 1000000000) :
    ∃ l' : List S23, l'.length = l.length ∧ (∀ (j : Nat) (h : j < l'.length), MarkedF q j (l'[j]'h)) ∧ Ev (fun k => laws_markTable.f k m c a l q) (q + 2 * l.length, l') := by
  obtain ⟨l', h1, h2, h3⟩ := markF l q h0 hm
  refine ⟨l', h1, h2, ?_⟩
  unfold laws_markTable.f
  exact evBind h3 (Ev.now _)
theorem heldTab (m c a : Int) (l : List S23) (q : Int) (h0 : 0 ≤ q) (hm : q + 2 * l.length < 1000000000) (hj : ∀ (j : Nat) (h : j < l.length), MarkedF q j (l[j]'h)) : Ev (fun k => laws_heldTable.f k m c a l q) (q + 2 * l.length) := by
  unfold laws_heldTable.f
  exact evBind (heldF q l h0 hm hj) (evNeg (by omega) (Ev.now _))

/-! ### a field put behind a table -/
def addP (m c a : Int) (l : List S23) (x : S23) : Int × Int × Int × List S23 × Int :=
  if tableP m c a l = true ∧ fieldP x.f0 x.f1 = true ∧ a ≠ 4611686018427387902 then (if costP x > c then (0, 0, 0, [], 16) else (m, c, a + 1, fitP l (c - costP x) ++ [x], 0)) else (0, 0, 0, [], 1)
theorem addP_len (m c a : Int) (l : List S23) (x : S23) : (addP m c a l x).2.2.2.1.length ≤ l.length + 1 := by
  unfold addP
  split
  · split
    · simp
    · have := fitP_len l (c - costP x); simp; omega
  · simp
theorem tableAddS (m c a : Int) (l : List S23) (x : S23) (hl : l.length ≤ 1048576) (hs : ∀ y ∈ l, small y) (hx : small x) : Ev (fun k => spec_TableAdd.f k m c a l x.f0 x.f1) (addP m c a l x) := by
  have bad : ¬ (tableP m c a l = true ∧ fieldP x.f0 x.f1 = true ∧ a ≠ 4611686018427387902) → Ev (fun k => spec_TableAdd.j0 k true m c a l x.f0 x.f1) (addP m c a l x) := by
    intro h
    unfold addP
    rw [if_neg h]
    refine evSucc ?_
    simp only [spec_TableAdd.j0]
    exact evPos (by first | rfl | trivial) (Ev.now _)
  unfold spec_TableAdd.f
  refine evBind (tableS m c a l hl hs) (evSplit (fun h1 => evBind (fieldS x.f0 x.f1) (evSplit (fun h2 => ?_) (fun h2 => bad (fun h => h2 h.2.1)))) (fun h1 => bad (fun h => h1 h.1)))
  by_cases h3 : a = 4611686018427387902
  · rw [show (a == 4611686018427387902) = true from beq_iff_eq.2 h3]
    exact bad (fun h => h.2.2 h3)
  · rw [show (a == 4611686018427387902) = false from beq_eq_false_iff_ne.2 h3]
    have hh := tableP_head h1
    unfold headP at hh
    have hc := costP_ge x
    have hf := fitP_len l (c - costP x)
    unfold addP
    rw [if_pos ⟨h1, h2, h3⟩]
    refine evSucc ?_
    simp only [spec_TableAdd.j0]
    refine evNeg (by simp) (evPut (costS x hx) (evSplit (fun h4 => evNow ?_) (fun h4 => evPut (costS x hx) ?_)))
    · rw [if_pos h4]
    · rw [if_neg h4, w64 (x := c - costP x) (by omega) (by omega), w64 (x := a + 1) (by omega) (by omega)]
      exact evBind (fitS l (c - costP x) hl hs) (evPut rfl (evPos (by simp; omega) (Ev.now _)))
theorem tableAddI (m c a : Int) (l : List S23) (x : S23) (hl : l.length ≤ 1048576) (hs : ∀ y ∈ l, small y) (hx : small x) : Ev (fun k => impl_TableAdd.f k m c a l x.f0 x.f1) (addP m c a l x) := by
  have bad : ¬ (tableP m c a l = true ∧ fieldP x.f0 x.f1 = true ∧ a ≠ 4611686018427387902) → Ev (fun k => impl_TableAdd.j0 k true m c a l x.f0 x.f1) (addP m c a l x) := by
    intro h
    unfold addP
    rw [if_neg h]
    refine evSucc ?_
    simp only [impl_TableAdd.j0]
    exact evPos (by first | rfl | trivial) (Ev.now _)
  unfold impl_TableAdd.f
  refine evBind (tableI m c a l hl hs) (evSplit (fun h1 => evBind (fieldI x.f0 x.f1) (evSplit (fun h2 => ?_) (fun h2 => bad (fun h => h2 h.2.1)))) (fun h1 => bad (fun h => h1 h.1)))
  by_cases h3 : a = 4611686018427387902
  · rw [show (a == 4611686018427387902) = true from beq_iff_eq.2 h3]
    exact bad (fun h => h.2.2 h3)
  · rw [show (a == 4611686018427387902) = false from beq_eq_false_iff_ne.2 h3]
    have hh := tableP_head h1
    unfold headP at hh
    have hc := costP_ge x
    have hf := fitP_len l (c - costP x)
    unfold addP
    rw [if_pos ⟨h1, h2, h3⟩]
    refine evSucc ?_
    simp only [impl_TableAdd.j0]
    refine evNeg (by simp) (evPut (costI x hx) (evSplit (fun h4 => evNow ?_) (fun h4 => evPut (costI x hx) (evBind (fitI m c a (costP x) l (by omega) (by omega) (by omega) hl hs) ?_))))
    · rw [if_pos h4]
    · rw [if_neg h4]
      simp only
      rw [w64 (x := a + 1) (by omega) (by omega)]
      exact evPos (by omega) (Ev.now _)
theorem FnExactTableAdd : laws_FnExactTableAdd.Stmt := by
  intro x y hx hy
  obtain ⟨_, _, _, hm, hg⟩ := hx
  refine evEnds ?_
  unfold laws_FnExactTableAdd.f
  obtain ⟨r, hr, hr1, hb⟩ := szT x.f0 x.f1 x.f2 x.f3 1048576 (by omega) (by omega) hm hg
  refine evBind hr (evSplit (fun _ => Ev.now _) (fun h => ?_))
  obtain ⟨b1, b2⟩ := hb (by omega)
  obtain ⟨p, hp, _, hq⟩ := szField_is y r ⟨by omega, hr1⟩ hy
  refine evPut hp (evSplit (fun _ => Ev.now _) (fun h2 => ?_))
  have hys : small (ofField y) := hq (by omega)
  have t := toT x.f0 x.f1 x.f2 x.f3 b1
  have tf : laws_toField.f y.f0 y.f1 = some (y.f0, y.f1) := rfl
  have hl : (x.f3.map ofField).length ≤ 1048576 := by simpa using b1
  have hs := small_map x.f3 b2
  have gS : Ev (fun k => spec_TableAdd.f k x.f0 x.f1 x.f2 (x.f3.map ofField) y.f0 y.f1) _ := tableAddS x.f0 x.f1 x.f2 (x.f3.map ofField) (ofField y) hl hs hys
  have gI : Ev (fun k => impl_TableAdd.f k x.f0 x.f1 x.f2 (x.f3.map ofField) y.f0 y.f1) _ := tableAddI x.f0 x.f1 x.f2 (x.f3.map ofField) (ofField y) hl hs hys
  have gl := addP_len x.f0 x.f1 x.f2 (x.f3.map ofField) (ofField y)
  generalize addP x.f0 x.f1 x.f2 (x.f3.map ofField) (ofField y) = g at gS gI gl
  have hgl : g.2.2.2.1.length < 4611686018427387904 := by omega
  have hll : (x.f3.map ofField).length < 4611686018427387904 := by omega
  obtain ⟨m1, q1, _, r1⟩ := markTab x.f0 x.f1 x.f2 (x.f3.map ofField) 1 (by omega) (by omega)
  obtain ⟨m2, q2, q3, r2⟩ := markTab g.1 g.2.1 g.2.2.1 g.2.2.2.1 1 (by omega) (by omega)
  have h4 := heldTab g.1 g.2.1 g.2.2.1 m2 1 (by omega) (by omega) q3
  refine evBind t (evPut tf (evBind gS (evBind t (evPut tf (evBind gI (evBind (eqT _ _ _ _ hgl) (evPos rfl (evSucc ?_))))))))
  simp only [laws_FnExactTableAdd.j0]
  refine evNeg (by simp) (evBind t (evBind (eqT _ _ _ _ hll) (evPos rfl (evBind r1 (evNeg (by simp only; omega) (evBind (eqT _ _ _ _ hgl) (evPos rfl (evSucc ?_))))))))
  simp only [laws_FnExactTableAdd.j1]
  refine evNeg (by simp) (evBind r2 (evBind h4 (evNeg (by omega) (evPos (by rw [q2]) (evBind t (evPut tf (evBind gI (evBind (eqT _ _ _ _ hgl) (evPos rfl (evSucc ?_))))))))))
  simp only [laws_FnExactTableAdd.j2]
  exact evNeg (by simp) (evBind h4 (evNeg (by omega) (evPos (by rw [q2]) (Ev.now _))))

end Go.Proofs.Ytjhcphcjpndciaa.Pure
