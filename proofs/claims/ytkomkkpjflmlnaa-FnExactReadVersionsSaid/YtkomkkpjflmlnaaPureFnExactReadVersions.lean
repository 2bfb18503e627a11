/- The program's ReadVersions answers what the reference's answers, in memory of its own, for all bytes; no condition. -/
import Derived.Test.YtkomkkpjflmlnaaPFnExactReadVersionsx0
import Derived.Test.YtkomkkpjflmlnaaPFnExactReadVersionsx1
import Derived.Test.YtkomkkpjflmlnaaPFnExactReadVersionsx2
import Derived.Test.YtkomkkpjflmlnaaPFnExactReadVersionsx3
import Derived.Test.YtkomkkpjflmlnaaPFnExactReadVersionsx4
import Derived.Test.YtkomkkpjflmlnaaPFnExactReadVersionsx5
import Derived.Test.YtkomkkpjflmlnaaPFnExactReadVersionsx6
import Derived.Test.YtkomkkpjflmlnaaPFnExactReadVersionsx7
import Derived.Laws.BitsLemmas
import Derived.Laws.BitsAllLaws
set_option linter.unusedVariables false
set_option linter.unusedSimpArgs false
set_option maxRecDepth 4000
namespace Go.Proofs.Ytkomkkpjflmlnaa.Pure
open Go.RowKit Go.Proofs.Ytkomkkpjflmlnaa.PFnExactReadVersions Go.Proofs.YtkomkkpjflmlnaaW.PrintWords Go.Proofs.YtkomkkpjflmlnaaW.PrintLast Go.Proofs.YtkomkkpjflmlnaaW.PrintMore

/-! ### tools: what a printed function comes to -/
theorem evSucc {α : Type} {g : Nat → Option α} {r : α} (h : Ev (fun k => g (k + 1)) r) : Ev g r := Ev.step (fun _ => rfl) h
theorem evPos {α : Type} {c : Prop} {dc : Decidable c} {a b : Nat → Option α} {r : α} (h : c) (e : Ev a r) : Ev (fun k => if c then a k else b k) r :=
  Ev.congr (fun _ => if_pos h) e
theorem evNeg {α : Type} {c : Prop} {dc : Decidable c} {a b : Nat → Option α} {r : α} (h : ¬ c) (e : Ev b r) : Ev (fun k => if c then a k else b k) r :=
  Ev.congr (fun _ => if_neg h) e
theorem evSplit {α : Type} {c : Prop} {dc : Decidable c} {a b : Nat → Option α} {r : α} (h : c → Ev a r) (h' : ¬ c → Ev b r) : Ev (fun k => if c then a k else b k) r := by
  by_cases hc : c
  · exact evPos hc (h hc)
  · exact evNeg hc (h' hc)
theorem evBind {α β : Type} {g : Nat → Option α} {f : Nat → α → Option β} {a : α} {r : β} (h : Ev g a) (k : Ev (fun n => f n a) r) : Ev (fun n => (g n).bind (f n)) r := Ev.bind h k
theorem evPut {α β : Type} {o : Option α} {f : Nat → α → Option β} {a : α} {r : β} (h : o = some a) (k : Ev (fun n => f n a) r) : Ev (fun n => o.bind (f n)) r :=
  Ev.congr (fun _ => by rw [h]; rfl) k
theorem evNow {α : Type} {r r' : α} (h : r = r') : Ev (fun _ => some r) r' := h ▸ Ev.now r
theorem evOf {α : Type} {o : Option α} {r : α} (h : o = some r) : Ev (fun _ => o) r := ⟨0, fun _ _ => h⟩
theorem evEnds {α : Type} {g : Nat → Option α} {r : α} (h : Ev g r) : ∃ k, g k = some r := Ev.rounds h
theorem w64 {x : Int} (h : -9223372036854775808 ≤ x) (h' : x ≤ 9223372036854775807) : wrap64 x = x := by unfold wrap64; omega
theorem w64succ (i : Nat) (h : i < 4611686018427387904) : wrap64 ((i : Int) + 1) = ((i + 1 : Nat) : Int) := by unfold wrap64; omega
theorem wfI {x : Int} (h : (Lit.int .i64 x).wf = true) : -9223372036854775808 ≤ x ∧ x ≤ 9223372036854775807 := by
  simp only [Lit.wf, IntKind.min, IntKind.max, IntKind.bits, IntKind.signed, Bool.and_eq_true, decide_eq_true_eq] at h
  simpa using h
theorem wfB {x : Int} (h : (Lit.int .u8 x).wf = true) : 0 ≤ x ∧ x ≤ 255 := by
  simp only [Lit.wf, IntKind.min, IntKind.max, IntKind.bits, IntKind.signed, Bool.and_eq_true, decide_eq_true_eq] at h
  simpa using h
theorem rdN (l : List Int) (i : Nat) (h : i < l.length) : rd l (i : Int) = l[i] := by simp [rd, List.getD_eq_getElem?_getD, h]
theorem fillStep {α : Type} (l : List α) (z : α) (i d : Nat) (h : i + (d + 1) = l.length) : (l.take i ++ List.replicate (d + 1) z).set i (l[i]'(by omega)) = l.take (i + 1) ++ List.replicate d z := by
  rw [List.set_append_right _ _ (by simp; omega), List.take_succ_eq_append_getElem (show i < l.length by omega), List.append_assoc]
  congr 1
  have e : i - (l.take i).length = 0 := by simp; omega
  rw [e]
  rfl
theorem evCast {α : Type} {g : Nat → Option α} {r r' : α} (h : Ev g r') (e : r' = r) : Ev g r := e ▸ h

/-! ### the laws' own helpers on bytes -/
theorem eqB_loop (l : List Int) (hl : l.length < 4611686018427387904) : ∀ (d i : Nat), i + d = l.length → Ev (fun k => laws_eqByteS.l0 k l l (i : Int)) true := by
  intro d
  induction d with
  | zero =>
    intro i h
    refine evSucc ?_
    simp only [laws_eqByteS.l0]
    exact evNeg (by omega) (Ev.now _)
  | succ d ih =>
    intro i h
    refine evSucc ?_
    simp only [laws_eqByteS.l0]
    refine evPos (by omega) (evPos (by omega) (evPos (by omega) (evPos (by first | rfl | trivial) ?_)))
    rw [w64succ i (by omega)]
    exact ih (i + 1) (by omega)
theorem eqB (l : List Int) (hl : l.length < 4611686018427387904) : Ev (fun k => laws_eqByteS.f k l l) true := by
  unfold laws_eqByteS.f
  exact evPos rfl (eqB_loop l hl l.length 0 (by omega))

theorem toB_loop (l : List Int) (hl : l.length < 4611686018427387904) : ∀ (d i : Nat), i + d = l.length → Ev (fun k => laws_toByteS.l0 k l (l.take i ++ List.replicate d 0) (i : Int)) l := by
  intro d
  induction d with
  | zero =>
    intro i h
    refine evSucc ?_
    simp only [laws_toByteS.l0]
    refine evNeg (by omega) (evNow ?_)
    simp [List.take_of_length_le (show l.length ≤ i by omega)]
  | succ d ih =>
    intro i h
    refine evSucc ?_
    simp only [laws_toByteS.l0]
    refine evPos (by omega) (evPos (by omega) (evPos (by simp; omega) ?_))
    rw [w64succ i (by omega), rdN l i (by omega), Int.toNat_natCast, fillStep l 0 i d h]
    exact ih (i + 1) (by omega)
theorem toB (l : List Int) (hl : l.length ≤ 140737488351232) : Ev (fun k => laws_toByteS.f k l) l := by
  unfold laws_toByteS.f
  refine evPos (by omega) (evPos (by omega) ?_)
  have := toB_loop l (by omega) l.length 0 (by omega)
  simpa using this

theorem markB_loop (m : Int) (n : Nat) (h0 : 0 ≤ m) (hm : m + n < 4611686018427387904) : ∀ (d i : Nat) (l : List Int), i + d = n → l.length = n → (∀ j : Nat, j < i → rd l (j : Int) = (m + j) % 256) →
    ∃ l' : List Int, l'.length = n ∧ (∀ j : Nat, j < n → rd l' (j : Int) = (m + j) % 256) ∧ Ev (fun k => laws_markByteS.l0 k l (m + i) (i : Int)) (m + n, l') := by
  intro d
  induction d with
  | zero =>
    intro i l h hl hj
    refine ⟨l, hl, fun j hj' => hj j (by omega), evSucc ?_⟩
    simp only [laws_markByteS.l0]
    refine evNeg (by omega) (evNow ?_)
    have : i = n := by omega
    rw [this]
  | succ d ih =>
    intro i l h hl hj
    obtain ⟨l', hl', hj', e⟩ := ih (i + 1) (l.set i ((m + i) % 256)) (by omega) (by simpa using hl) (by
      intro j hj1
      by_cases hji : j = i
      · subst hji
        simp [rd, List.getD_eq_getElem?_getD, hl, show j < n by omega]
      · have := hj j (by omega)
        simp only [rd, List.getD_eq_getElem?_getD, Int.toNat_natCast] at this ⊢
        rw [List.getElem?_set_ne (by omega)]
        exact this)
    refine ⟨l', hl', hj', evSucc ?_⟩
    simp only [laws_markByteS.l0]
    refine evPos (by omega) (evPos (by omega) ?_)
    rw [w64succ i (by omega), w64 (by omega) (by omega), Int.toNat_natCast]
    have e2 : m + (i : Int) + 1 = m + ((i + 1 : Nat) : Int) := by omega
    rw [e2]
    exact e
theorem markB (l : List Int) (m : Int) (h0 : 0 ≤ m) (hm : m + l.length < 4611686018427387904) :
    ∃ l' : List Int, l'.length = l.length ∧ (∀ j : Nat, j < l.length → rd l' (j : Int) = (m + j) % 256) ∧ Ev (fun k => laws_markByteS.f k l m) (m + l.length, l') := by
  obtain ⟨l', h1, h2, h3⟩ := markB_loop m l.length h0 hm l.length 0 l (by omega) rfl (by omega)
  refine ⟨l', h1, h2, ?_⟩
  unfold laws_markByteS.f
  simpa using h3

/-! ### the laws' own helpers on bytes -/
theorem eqI_loop (l : List Int) (hl : l.length < 4611686018427387904) : ∀ (d i : Nat), i + d = l.length → Ev (fun k => laws_eqIntS.l0 k l l (i : Int)) true := by
  intro d
  induction d with
  | zero =>
    intro i h
    refine evSucc ?_
    simp only [laws_eqIntS.l0]
    exact evNeg (by omega) (Ev.now _)
  | succ d ih =>
    intro i h
    refine evSucc ?_
    simp only [laws_eqIntS.l0]
    refine evPos (by omega) (evPos (by omega) (evPos (by omega) (evPos (by first | rfl | trivial) ?_)))
    rw [w64succ i (by omega)]
    exact ih (i + 1) (by omega)
theorem eqI (l : List Int) (hl : l.length < 4611686018427387904) : Ev (fun k => laws_eqIntS.f k l l) true := by
  unfold laws_eqIntS.f
  exact evPos rfl (eqI_loop l hl l.length 0 (by omega))

theorem markI_loop (m : Int) (n : Nat) (h0 : 0 ≤ m) (hm : m + n < 4611686018427387904) : ∀ (d i : Nat) (l : List Int), i + d = n → l.length = n → (∀ j : Nat, j < i → rd l (j : Int) = m + j) →
    ∃ l' : List Int, l'.length = n ∧ (∀ j : Nat, j < n → rd l' (j : Int) = m + j) ∧ Ev (fun k => laws_markIntS.l0 k l (m + i) (i : Int)) (m + n, l') := by
  intro d
  induction d with
  | zero =>
    intro i l h hl hj
    refine ⟨l, hl, fun j hj' => hj j (by omega), evSucc ?_⟩
    simp only [laws_markIntS.l0]
    refine evNeg (by omega) (evNow ?_)
    have : i = n := by omega
    rw [this]
  | succ d ih =>
    intro i l h hl hj
    obtain ⟨l', hl', hj', e⟩ := ih (i + 1) (l.set i (m + i)) (by omega) (by simpa using hl) (by
      intro j hj1
      by_cases hji : j = i
      · subst hji
        simp [rd, List.getD_eq_getElem?_getD, hl, show j < n by omega]
      · have := hj j (by omega)
        simp only [rd, List.getD_eq_getElem?_getD, Int.toNat_natCast] at this ⊢
        rw [List.getElem?_set_ne (by omega)]
        exact this)
    refine ⟨l', hl', hj', evSucc ?_⟩
    simp only [laws_markIntS.l0]
    refine evPos (by omega) (evPos (by omega) ?_)
    rw [w64succ i (by omega), w64 (by omega) (by omega), Int.toNat_natCast]
    have e2 : m + (i : Int) + 1 = m + ((i + 1 : Nat) : Int) := by omega
    rw [e2]
    exact e
theorem markI (l : List Int) (m : Int) (h0 : 0 ≤ m) (hm : m + l.length < 4611686018427387904) :
    ∃ l' : List Int, l'.length = l.length ∧ (∀ j : Nat, j < l.length → rd l' (j : Int) = m + j) ∧ Ev (fun k => laws_markIntS.f k l m) (m + l.length, l') := by
  obtain ⟨l', h1, h2, h3⟩ := markI_loop m l.length h0 hm l.length 0 l (by omega) rfl (by omega)
  refine ⟨l', h1, h2, ?_⟩
  unfold laws_markIntS.f
  simpa using h3
theorem heldI_loop (m : Int) (l : List Int) (h0 : 0 ≤ m) (hm : m + l.length < 4611686018427387904) (hj : ∀ j : Nat, j < l.length → rd l (j : Int) = m + j) :
    ∀ (d i : Nat), i + d = l.length → Ev (fun k => laws_heldIntS.l0 k l (m + i) (i : Int)) (m + l.length) := by
  intro d
  induction d with
  | zero =>
    intro i h
    refine evSucc ?_
    simp only [laws_heldIntS.l0]
    refine evNeg (by omega) (evNow ?_)
    have : i = l.length := by omega
    rw [this]
  | succ d ih =>
    intro i h
    refine evSucc ?_
    simp only [laws_heldIntS.l0]
    refine evPos (by omega) (evPos (by omega) (evPos (hj i (by omega)) ?_))
    rw [w64succ i (by omega), w64 (by omega) (by omega)]
    have e2 : m + (i : Int) + 1 = m + ((i + 1 : Nat) : Int) := by omega
    rw [e2]
    exact ih (i + 1) (by omega)
theorem heldI (m : Int) (l : List Int) (h0 : 0 ≤ m) (hm : m + l.length < 4611686018427387904) (hj : ∀ j : Nat, j < l.length → rd l (j : Int) = m + j) :
    Ev (fun k => laws_heldIntS.f k l m) (m + l.length) := by
  unfold laws_heldIntS.f
  have := heldI_loop m l h0 hm hj l.length 0 (by omega)
  simpa using this

theorem bitsOrComm (k : IntKind) (x y : Int) : Go.bits .or k x y = Go.bits .or k y x := by
  simp only [Go.bits]; rw [BitVec.or_comm]

/-! ### a number out of its bytes -/
theorem stepU (a b : Int) (h0 : 0 ≤ a) (h1 : a ≤ 72057594037927935) (h2 : 0 ≤ b) (h3 : b ≤ 255) : Go.bits .or .u64 (IntKind.u64.wrap (a * 256)) (IntKind.u64.wrap b) = a * 256 + b := by
  have wr : ∀ n : Int, IntKind.u64.wrap n = n % 18446744073709551616 := fun n => by simp [IntKind.wrap, IntKind.bits, IntKind.signed]
  rw [wr (a * 256), wr b, Int.emod_eq_of_lt (by omega) (by omega), Int.emod_eq_of_lt (by omega) (by omega)]
  exact bits_join .u64 64 (by decide) (fun n h h' => by rw [wr]; omega) 8 (a * 256) b (by omega) (by omega) (by omega) h2 (by omega) (by omega)
theorem unfStep (l : List Int) (i : Nat) (a x r : Int) (hi : i < l.length) (hl : l.length ≤ 1000) (hx : rd l (i : Int) = x) (h0 : 0 ≤ a) (h1 : a ≤ 72057594037927935) (h2 : 0 ≤ x) (h3 : x ≤ 255)
    (h : Ev (fun k => impl_unfixed.l0 k (a * 256 + x) l (l.length : Int) ((i + 1 : Nat) : Int)) r) : Ev (fun k => impl_unfixed.l0 k a l (l.length : Int) (i : Int)) r := by
  refine evSucc ?_
  simp only [impl_unfixed.l0]
  refine evPos (by omega) (evPos (by omega) (evPos (by omega) ?_))
  rw [hx, stepU a x h0 h1 h2 h3, w64succ i (by omega)]
  exact h
theorem pow256le (k : Nat) (h : k ≤ 7) : (256 : Int) ^ k ≤ 72057594037927936 := by
  have h1 : (256 : Nat) ^ k ≤ 256 ^ 7 := Nat.pow_le_pow_right (by decide) h
  have e : (256 : Nat) ^ 7 = 72057594037927936 := by decide
  rw [e] at h1
  have h2 := Int.ofNat_le.2 h1
  rw [Int.natCast_pow] at h2
  exact h2
def valL (a : Int) (l : List Int) : Int := l.foldl (fun a b => a * 256 + b) a
theorem unfG (l : List Int) (hl : l.length ≤ 8) (hb : ∀ x ∈ l, 0 ≤ x ∧ x ≤ 255) : ∀ (q i : Nat) (a : Int), i + q = l.length → 0 ≤ a → a < 256 ^ i → Ev (fun k => impl_unfixed.l0 k a l (l.length : Int) (i : Int)) (wrap64 (valL a (l.drop i))) := by
  intro q
  induction q with
  | zero =>
    intro i a h _ _
    refine evSucc ?_
    simp only [impl_unfixed.l0]
    refine evNeg (by omega) (evNow ?_)
    rw [List.drop_of_length_le (by omega)]
    rfl
  | succ q ih =>
    intro i a h h0 h1
    have hi : i < l.length := by omega
    have hx := hb _ (List.getElem_mem hi)
    have hp := pow256le i (by omega)
    refine unfStep l i a l[i] _ hi (by omega) (rdN l i hi) h0 (by omega) hx.1 hx.2 ?_
    rw [List.drop_eq_getElem_cons hi]
    exact ih (i + 1) (a * 256 + l[i]) (by omega) (by omega) (by rw [Int.pow_succ]; omega)
theorem unfF (l : List Int) (hl : l.length ≤ 8) (hb : ∀ x ∈ l, 0 ≤ x ∧ x ≤ 255) : Ev (fun k => impl_unfixed.f k l) (wrap64 (valL 0 l)) := by
  unfold impl_unfixed.f
  exact unfG l hl hb l.length 0 0 (by omega) (by omega) (by simp)

/-! ### a number is read back, whatever stands there -/
theorem bitsNeg (v : Int) (h0 : 0 ≤ v) (h1 : v ≤ 4611686018427387903) : Go.bits .and .i64 (v - 4611686018427387904) 4611686018427387903 = v := by
  have wr : ∀ n : Int, IntKind.u64.wrap n = n % 18446744073709551616 := fun n => by simp [IntKind.wrap, IntKind.bits, IntKind.signed]
  have u := bits_mask .u64 64 (by decide) (fun n h h' => by rw [wr]; omega) 62 (by decide) (v + 13835058055282163712) (by omega) (by omega)
  have e : BitVec.ofInt 64 (v - 4611686018427387904) = BitVec.ofInt 64 (v + 13835058055282163712) := by
    apply BitVec.eq_of_toNat_eq
    simp only [BitVec.toNat_ofInt]
    congr 1
    omega
  have s : (2 : Int) ^ 62 - 1 = 4611686018427387903 := by decide
  rw [s] at u
  have u2 : IntKind.u64.wrap (((BitVec.ofInt 64 (v + 13835058055282163712) &&& BitVec.ofInt 64 4611686018427387903).toNat : Nat) : Int) = (v + 13835058055282163712) % 2 ^ 62 := u
  show IntKind.i64.wrap (((BitVec.ofInt 64 (v - 4611686018427387904) &&& BitVec.ofInt 64 4611686018427387903).toNat : Nat) : Int) = v
  rw [e]
  have hlt := (BitVec.ofInt 64 (v + 13835058055282163712) &&& BitVec.ofInt 64 4611686018427387903).isLt
  generalize (BitVec.ofInt 64 (v + 13835058055282163712) &&& BitVec.ofInt 64 4611686018427387903).toNat = N at u2 hlt
  rw [wr] at u2
  rw [IntKind.wrap_i64]
  omega
theorem andI (x : Int) (i : Nat) (hi : i ≤ 63) (h0 : 0 ≤ x) (h1 : x ≤ 9223372036854775807) : Go.bits .and .i64 x (2 ^ i - 1) = x % 2 ^ i :=
  bits_mask .i64 63 (by decide) (fun n h h' => by rw [IntKind.wrap_i64]; omega) i hi x h0 (by omega)
theorem shl64 (x : Int) (n : Nat) (hn : n ≤ 64) : shl .i64 x (n : Int) = wrap64 (x * 2 ^ n) := by
  unfold shl
  rw [IntKind.wrap_i64, Int.toNat_natCast, Nat.min_eq_left (by simpa [IntKind.bits] using hn)]
  unfold wrap64; rfl
theorem sh1 (q : Nat) (h : q ≤ 3) : shl .i64 1 (q : Int) = ((2 ^ q : Nat) : Int) := by
  rw [shl64 1 _ (by omega), Int.one_mul]
  have hq : q = 0 ∨ q = 1 ∨ q = 2 ∨ q = 3 := by omega
  rcases hq with rfl | rfl | rfl | rfl <;> (rw [w64 (by decide) (by decide)]; decide)
theorem maskE (n m : Nat) (hm : 8 * n + 6 = m) (h : m ≤ 62) : wrap64 (shl .i64 1 (wrap64 (wrap64 (8 * ((n + 1 : Nat) : Int)) - 2)) - 1) = 2 ^ m - 1 := by
  have h1 : (2 : Nat) ^ m ≤ 2 ^ 62 := Nat.pow_le_pow_right (by decide) h
  have h0 : 1 ≤ (2 : Nat) ^ m := Nat.one_le_two_pow
  have e : (2 : Nat) ^ 62 = 4611686018427387904 := by decide
  rw [e] at h1
  have h2 := Int.ofNat_le.2 h1
  have h3 := Int.ofNat_le.2 h0
  rw [Int.natCast_pow] at h2 h3
  rw [w64 (x := 8 * ((n + 1 : Nat) : Int)) (by omega) (by omega), w64 (x := 8 * ((n + 1 : Nat) : Int) - 2) (by omega) (by omega), show 8 * ((n + 1 : Nat) : Int) - 2 = (m : Int) by omega, shl64 1 m (by omega), Int.one_mul]
  generalize hp : (2 : Int) ^ m = p
  have h2 : p ≤ 4611686018427387904 := hp ▸ h2
  have h3 : 1 ≤ p := hp ▸ h3
  rw [w64 (x := p) (by omega) (by omega), w64 (x := p - 1) (by omega) (by omega)]
theorem maskN (v : Int) (n q : Nat) (h0 : 0 ≤ v) (hv : v < 64 * 256 ^ n) (hc : (n = 0 ∧ q = 0) ∨ (n = 1 ∧ q = 1) ∨ (n = 3 ∧ q = 2) ∨ (n = 7 ∧ q = 3)) :
    Go.bits .and .i64 (wrap64 (v + 64 * (q : Int) * 256 ^ n)) (wrap64 (shl .i64 1 (wrap64 (wrap64 (8 * ((n + 1 : Nat) : Int)) - 2)) - 1)) = v := by
  rcases hc with ⟨rfl, rfl⟩ | ⟨rfl, rfl⟩ | ⟨rfl, rfl⟩ | ⟨rfl, rfl⟩
  · have e : wrap64 (shl .i64 1 (wrap64 (wrap64 (8 * ((0 + 1 : Nat) : Int)) - 2)) - 1) = 2 ^ 6 - 1 := maskE 0 6 rfl (by decide)
    have m : 64 * ((0 : Nat) : Int) * 256 ^ 0 = 0 := by decide
    rw [e, m, w64 (by omega) (by omega), andI _ 6 (by omega) (by omega) (by omega)]
    omega
  · have e : wrap64 (shl .i64 1 (wrap64 (wrap64 (8 * ((1 + 1 : Nat) : Int)) - 2)) - 1) = 2 ^ 14 - 1 := maskE 1 14 rfl (by decide)
    have m : 64 * ((1 : Nat) : Int) * 256 ^ 1 = 16384 := by decide
    rw [e, m, w64 (by omega) (by omega), andI _ 14 (by omega) (by omega) (by omega)]
    omega
  · have e : wrap64 (shl .i64 1 (wrap64 (wrap64 (8 * ((3 + 1 : Nat) : Int)) - 2)) - 1) = 2 ^ 30 - 1 := maskE 3 30 rfl (by decide)
    have m : 64 * ((2 : Nat) : Int) * 256 ^ 3 = 2147483648 := by decide
    have b : (64 : Int) * 256 ^ 3 = 1073741824 := by decide
    rw [e, m, w64 (by omega) (by omega), andI _ 30 (by omega) (by omega) (by omega)]
    omega
  · have e : wrap64 (shl .i64 1 (wrap64 (wrap64 (8 * ((7 + 1 : Nat) : Int)) - 2)) - 1) = 4611686018427387903 := (maskE 7 62 rfl (by decide)).trans (by decide)
    have m : 64 * ((3 : Nat) : Int) * 256 ^ 7 = 13835058055282163712 := by decide
    have b : (64 : Int) * 256 ^ 7 = 4611686018427387904 := by decide
    have w : wrap64 (v + 13835058055282163712) = v - 4611686018427387904 := by unfold wrap64; omega
    rw [e, m, w]
    exact bitsNeg v h0 (by omega)
theorem valL_add : ∀ (T : List Int) (a c : Int), valL (a + c) T = valL a T + c * 256 ^ T.length
  | [], a, c => by simp [valL]
  | x :: t, a, c => by
    have ih := valL_add t (a * 256 + x) (c * 256)
    have e1 : valL (a + c) (x :: t) = valL ((a + c) * 256 + x) t := rfl
    have e2 : valL a (x :: t) = valL (a * 256 + x) t := rfl
    have e3 : (a + c) * 256 + x = (a * 256 + x) + c * 256 := by omega
    rw [e1, e2, e3, ih, List.length_cons, Int.pow_succ, Int.mul_assoc, Int.mul_comm 256 ((256 : Int) ^ t.length)]
theorem valL_lt : ∀ (T : List Int) (a : Int), (∀ x ∈ T, 0 ≤ x ∧ x ≤ 255) → 0 ≤ a → 0 ≤ valL a T ∧ valL a T < (a + 1) * 256 ^ T.length
  | [], a, _, h => by
    have e : valL a [] = a := rfl
    rw [e, List.length_nil, Int.pow_zero]
    omega
  | x :: t, a, hb, h => by
    have hx := hb x (List.mem_cons_self ..)
    obtain ⟨h1, h2⟩ := valL_lt t (a * 256 + x) (fun y hy => hb y (List.mem_cons_of_mem _ hy)) (by omega)
    have e1 : valL a (x :: t) = valL (a * 256 + x) t := rfl
    rw [e1]
    refine ⟨h1, Int.lt_of_lt_of_le h2 ?_⟩
    have hp : (0 : Int) ≤ 256 ^ t.length := Int.le_of_lt (Int.pow_pos (by decide))
    have h3 : (a * 256 + x + 1) * 256 ^ t.length ≤ ((a + 1) * 256) * 256 ^ t.length := Int.mul_le_mul_of_nonneg_right (by omega) hp
    rw [List.length_cons, Int.pow_succ, Int.mul_comm ((256 : Int) ^ t.length) 256, ← Int.mul_assoc]
    exact h3
/-- The number that stands at a place: its value, the place behind it, a code. -/
def gv (b : List Int) (a : Nat) : Int × Int × Int :=
  if a = b.length then (0, 0, 2) else if b.length < a + 2 ^ (rd b (a : Int) / 64).toNat then (0, 0, 2)
  else (valL (rd b (a : Int) % 64) ((b.drop (a + 1)).take (2 ^ (rd b (a : Int) / 64).toNat - 1)), ((a + 2 ^ (rd b (a : Int) / 64).toNat : Nat) : Int), 0)
theorem gv_ok (b : List Int) (a : Nat) (hb : ∀ x ∈ b, 0 ≤ x ∧ x ≤ 255) (h : a ≤ b.length) : ((gv b a).2.2 = 0 ∧ 0 ≤ (gv b a).1 ∧ ∃ t : Nat, (gv b a).2.1 = (t : Int) ∧ a < t ∧ t ≤ b.length) ∨ gv b a = (0, 0, 2) := by
  unfold gv
  by_cases h1 : a = b.length
  · rw [if_pos h1]; exact .inr rfl
  · rw [if_neg h1]
    by_cases h2 : b.length < a + 2 ^ (rd b (a : Int) / 64).toNat
    · rw [if_pos h2]; exact .inr rfl
    · rw [if_neg h2]
      refine .inl ⟨rfl, (valL_lt _ _ (fun x hx => hb x (List.mem_of_mem_drop (List.mem_of_mem_take hx))) (by omega)).1, _, rfl, ?_, by omega⟩
      have := Nat.one_le_two_pow (n := (rd b (a : Int) / 64).toNat)
      omega
theorem byteAt (b : List Int) (hb : ∀ x ∈ b, 0 ≤ x ∧ x ≤ 255) (a : Nat) (h : a < b.length) : 0 ≤ rd b (a : Int) ∧ rd b (a : Int) ≤ 255 := by
  rw [rdN b a h]; exact hb _ (List.getElem_mem h)
theorem qcase (x : Int) (h0 : 0 ≤ x) (h1 : x ≤ 255) : ∃ q n : Nat, x / 64 = (q : Int) ∧ 2 ^ q = n + 1 ∧ ((n = 0 ∧ q = 0) ∨ (n = 1 ∧ q = 1) ∨ (n = 3 ∧ q = 2) ∨ (n = 7 ∧ q = 3)) := by
  have h : x / 64 = 0 ∨ x / 64 = 1 ∨ x / 64 = 2 ∨ x / 64 = 3 := by omega
  rcases h with h | h | h | h
  · exact ⟨0, 0, h, rfl, by omega⟩
  · exact ⟨1, 1, h, rfl, by omega⟩
  · exact ⟨2, 3, h, rfl, by omega⟩
  · exact ⟨3, 7, h, rfl, by omega⟩
theorem gvI (b : List Int) (hl : b.length ≤ 65536) (hb : ∀ x ∈ b, 0 ≤ x ∧ x ≤ 255) (a : Nat) (h : a ≤ b.length) : Ev (fun k => impl_GetVar.f k b (a : Int)) (gv b a) := by
  unfold impl_GetVar.f
  refine evPut rfl (evNeg (by simp; omega) (evNeg (by omega) ?_))
  rw [decide_eq_false (show ¬ (a : Int) > (b.length : Int) by omega)]
  refine evSucc ?_
  simp only [impl_GetVar.j0]
  unfold gv
  by_cases h1 : a = b.length
  · rw [if_pos h1]; exact evNeg (by simp) (evPos (by omega) (Ev.now _))
  rw [if_neg h1]
  have ha : a < b.length := by omega
  obtain ⟨x0, x1⟩ := byteAt b hb a ha
  obtain ⟨q, n, hq, hn, hc⟩ := qcase _ x0 x1
  have hq3 : q ≤ 3 := by omega
  have hn7 : n ≤ 7 := by omega
  have hs : shl .i64 1 (q : Int) = ((n + 1 : Nat) : Int) := by rw [sh1 _ hq3, hn]
  have hqn : ((rd b (a : Int)) / 64).toNat = q := by rw [hq]; omega
  rw [hqn, hn]
  rw [hq, hs, w64 (x := (b.length : Int) - (a : Int)) (by omega) (by omega), w64 (x := (a : Int) + ((n + 1 : Nat) : Int)) (by omega) (by omega)]
  refine evNeg (by simp) (evNeg (by omega) (evPos (by omega) (evPos (by omega) (evPos (by omega) ?_))))
  by_cases h2 : b.length < a + (n + 1)
  · rw [if_pos h2]; exact evPos (by omega) (Ev.now _)
  rw [if_neg h2]
  refine evNeg (by omega) (evPos (by omega) (evPos (by omega) ?_))
  have hcut : (b.take ((a : Int) + ((n + 1 : Nat) : Int)).toNat).drop (a : Int).toNat = b[a] :: (b.drop (a + 1)).take n := by
    rw [show ((a : Int) + ((n + 1 : Nat) : Int)).toNat = a + (n + 1) by omega, Int.toNat_natCast, ← List.take_drop, List.drop_eq_getElem_cons ha]
    rfl
  rw [hcut]
  have hx : b[a] = rd b (a : Int) := (rdN b a ha).symm
  have hT : ∀ x ∈ (b.drop (a + 1)).take n, 0 ≤ x ∧ x ≤ 255 := fun x hx => hb x (List.mem_of_mem_drop (List.mem_of_mem_take hx))
  have hTl : ((b.drop (a + 1)).take n).length = n := by rw [List.length_take, List.length_drop]; omega
  refine evBind (unfF _ (by rw [List.length_cons, hTl]; omega) (by
    intro x hx2
    rcases List.mem_cons.1 hx2 with rfl | hx2
    · rw [hx]; exact ⟨x0, x1⟩
    · exact hT x hx2)) ?_
  refine evPos (by rw [w64 (x := 8 * ((n + 1 : Nat) : Int)) (by omega) (by omega), w64 (by omega) (by omega)]; omega) (evNow ?_)
  have hv := valL_lt ((b.drop (a + 1)).take n) (rd b (a : Int) % 64) hT (by omega)
  rw [hTl] at hv
  have hp : (0 : Int) ≤ 256 ^ n := Int.le_of_lt (Int.pow_pos (by decide))
  have h64 : (rd b (a : Int) % 64 + 1) * 256 ^ n ≤ 64 * 256 ^ n := Int.mul_le_mul_of_nonneg_right (by omega) hp
  have he : valL 0 (b[a] :: (b.drop (a + 1)).take n) = valL (rd b (a : Int) % 64) ((b.drop (a + 1)).take n) + 64 * (q : Int) * 256 ^ n := by
    have e1 : valL 0 (b[a] :: (b.drop (a + 1)).take n) = valL (0 * 256 + b[a]) ((b.drop (a + 1)).take n) := rfl
    rw [e1, hx, show 0 * 256 + rd b (a : Int) = rd b (a : Int) % 64 + 64 * (q : Int) by omega, valL_add, hTl]
  rw [he, maskN _ n q hv.1 (by omega) hc, show n + 1 - 1 = n from rfl]
  rfl
theorem gvS_loop (b : List Int) (hl : b.length ≤ 65536) (hb : ∀ x ∈ b, 0 ≤ x ∧ x ≤ 255) (a sz : Nat) (hs : sz ≤ 8) (ha : a + sz ≤ b.length) : ∀ (d i : Nat) (v : Int), i + d = sz → 1 ≤ i → 0 ≤ v → v < 64 * 256 ^ (i - 1) → Ev (fun k => spec_GetVar.l1 k b (a : Int) (sz : Int) v (i : Int)) (valL v ((b.drop (a + i)).take d), ((a + sz : Nat) : Int), 0)
  | 0, i, v, hi, h1, h0, hv => by
    refine evSucc ?_
    simp only [spec_GetVar.l1]
    refine evNeg (by omega) (evNow ?_)
    rw [w64 (by omega) (by omega), List.take_zero]
    have e : valL v [] = v := rfl
    rw [e]
    rfl
  | d + 1, i, v, hi, h1, h0, hv => by
    refine evSucc ?_
    simp only [spec_GetVar.l1]
    have hai : a + i < b.length := by omega
    obtain ⟨x0, x1⟩ := byteAt b hb (a + i) hai
    have hp7 := pow256le (i - 1) (by omega)
    have hadd : wrap64 ((a : Int) + (i : Int)) = ((a + i : Nat) : Int) := by rw [w64 (by omega) (by omega)]; omega
    have hp : (0 : Int) ≤ 256 ^ (i - 1) := Int.le_of_lt (Int.pow_pos (by decide))
    rw [hadd, w64 (x := rd b ((a + i : Nat) : Int)) (by omega) (by omega)]
    have hi6 : i - 1 ≤ 6 := by omega
    have hp6 : (256 : Int) ^ (i - 1) ≤ 281474976710656 := by
      have h1 : (256 : Nat) ^ (i - 1) ≤ 256 ^ 6 := Nat.pow_le_pow_right (by decide) hi6
      have e : (256 : Nat) ^ 6 = 281474976710656 := by decide
      rw [e] at h1
      have h2 := Int.ofNat_le.2 h1
      rw [Int.natCast_pow] at h2
      exact h2
    rw [w64 (x := v * 256) (by omega) (by omega), w64 (x := v * 256 + rd b ((a + i : Nat) : Int)) (by omega) (by omega), w64succ i (by omega)]
    refine evPos (by omega) (evPos (by omega) (evPos (by omega) ?_))
    have ih := gvS_loop b hl hb a sz hs ha d (i + 1) (v * 256 + rd b ((a + i : Nat) : Int)) (by omega) (by omega) (by omega) (by
      have e : i + 1 - 1 = (i - 1) + 1 := by omega
      rw [e, Int.pow_succ]
      omega)
    have e2 : (b.drop (a + i)).take (d + 1) = rd b ((a + i : Nat) : Int) :: (b.drop (a + (i + 1))).take d := by
      rw [List.drop_eq_getElem_cons hai, rdN b (a + i) hai]
      rfl
    rw [e2]
    exact ih
theorem gvS (b : List Int) (hl : b.length ≤ 65536) (hb : ∀ x ∈ b, 0 ≤ x ∧ x ≤ 255) (a : Nat) (h : a ≤ b.length) : Ev (fun k => spec_GetVar.f k b (a : Int)) (gv b a) := by
  unfold spec_GetVar.f
  refine evNeg (by omega) (evNeg (by omega) ?_)
  rw [decide_eq_false (show ¬ (a : Int) > (b.length : Int) by omega)]
  refine evSucc ?_
  simp only [spec_GetVar.j0]
  unfold gv
  by_cases h1 : a = b.length
  · rw [if_pos h1]; exact evNeg (by simp) (evPos (by omega) (Ev.now _))
  rw [if_neg h1]
  have ha : a < b.length := by omega
  obtain ⟨x0, x1⟩ := byteAt b hb a ha
  obtain ⟨q, n, hq, hn, hc⟩ := qcase _ x0 x1
  have hqn : ((rd b (a : Int)) / 64).toNat = q := by rw [hq]; omega
  rw [hqn, hn]
  refine evNeg (by simp) (evNeg (by omega) (evPos (by omega) (evPos (by omega) ?_)))
  have e0 : wrap64 (Int.tdiv (wrap64 (rd b (a : Int))) 64) = (q : Int) := by
    rw [w64 (x := rd b (a : Int)) (by omega) (by omega), Int.tdiv_eq_ediv_of_nonneg x0, hq, w64 (by omega) (by omega)]
  rw [e0]
  have tail : Ev (fun k => spec_GetVar.l0 k b (a : Int) ((n + 1 : Nat) : Int) 0) (if b.length < a + (n + 1) then (0, 0, 2) else (valL (rd b (a : Int) % 64) ((b.drop (a + 1)).take (n + 1 - 1)), ((a + (n + 1) : Nat) : Int), 0)) := by
    refine evSucc ?_
    simp only [spec_GetVar.l0]
    rw [w64 (x := (b.length : Int) - (a : Int)) (by omega) (by omega)]
    refine evNeg (by omega) ?_
    by_cases h2 : b.length < a + (n + 1)
    · rw [if_pos h2]; exact evPos (by omega) (Ev.now _)
    rw [if_neg h2]
    refine evNeg (by omega) (evPos (by omega) (evPos (by omega) ?_))
    rw [w64 (x := rd b (a : Int)) (by omega) (by omega), Int.tmod_eq_emod_of_nonneg x0]
    exact gvS_loop b hl hb a (n + 1) (by omega) (by omega) n 1 _ (by omega) (by omega) (by omega) (by simp; omega)
  have up : ∀ (z y : Int), 0 < y → -1000 ≤ 2 * z → 2 * z ≤ 1000 → y ≤ 1000 → ∀ r, Ev (fun k => spec_GetVar.l0 k b (a : Int) (2 * z) (y - 1)) r → Ev (fun k => spec_GetVar.l0 k b (a : Int) z y) r := by
    intro z y h1 h2 h3 h4 r hr
    refine evSucc ?_
    simp only [spec_GetVar.l0]
    rw [w64 (x := 2 * z) (by omega) (by omega), w64 (x := y - 1) (by omega) (by omega)]
    exact evPos (by omega) hr
  rcases hc with ⟨rfl, rfl⟩ | ⟨rfl, rfl⟩ | ⟨rfl, rfl⟩ | ⟨rfl, rfl⟩
  · exact tail
  · exact up 1 1 (by omega) (by omega) (by omega) (by omega) _ tail
  · exact up 1 2 (by omega) (by omega) (by omega) (by omega) _ (up 2 1 (by omega) (by omega) (by omega) (by omega) _ tail)
  · exact up 1 3 (by omega) (by omega) (by omega) (by omega) _ (up 2 2 (by omega) (by omega) (by omega) (by omega) _ (up 4 1 (by omega) (by omega) (by omega) (by omega) _ tail))

/-! ### a number taken by a state -/
def numF (b : List Int) (a : Nat) (s : Bool) : Int × Nat × Bool := if s = true then (0, a, true) else if (gv b a).2.2 = 0 then ((gv b a).1, (gv b a).2.1.toNat, false) else (0, a, true)
theorem numF_ok (b : List Int) (hb : ∀ x ∈ b, 0 ≤ x ∧ x ≤ 255) (a : Nat) (s : Bool) (h : a ≤ b.length) : 0 ≤ (numF b a s).1 ∧ a ≤ (numF b a s).2.1 ∧ (numF b a s).2.1 ≤ b.length ∧ ((numF b a s).2.2 = false → a < (numF b a s).2.1 ∧ s = false) ∧ ((numF b a s).2.2 = true → (numF b a s).1 = 0) := by
  unfold numF
  cases s with
  | true => rw [if_pos rfl]; exact ⟨Int.le_refl _, Nat.le_refl _, h, by simp, fun _ => rfl⟩
  | false =>
    rw [if_neg (by simp)]
    rcases gv_ok b a hb h with ⟨h1, h2, t, h3, h4, h5⟩ | h1
    · rw [if_pos h1, h3]
      exact ⟨h2, by simp; omega, by simpa using h5, fun _ => ⟨by simpa using h4, rfl⟩, by simp⟩
    · rw [h1, if_neg (by simp)]
      exact ⟨Int.le_refl _, Nat.le_refl _, h, by simp, fun _ => rfl⟩
theorem numS (b : List Int) (hl : b.length ≤ 65536) (hb : ∀ x ∈ b, 0 ≤ x ∧ x ≤ 255) (a : Nat) (s : Bool) (h : a ≤ b.length) : Ev (fun k => spec_rv.num k b (a : Int) s) ((numF b a s).1, ((numF b a s).2.1 : Int), (numF b a s).2.2) := by
  unfold spec_rv.num numF
  cases s with
  | true => rw [if_pos rfl]; exact evNeg (by simp) (Ev.now _)
  | false =>
    rw [if_neg (by simp)]
    refine evPos rfl (evBind (gvS b hl hb a h) ?_)
    rcases gv_ok b a hb h with ⟨h1, h2, t, h3, h4, h5⟩ | h1
    · rw [if_pos h1]; refine evNow ?_; rw [if_pos h1, h3]; simp
    · rw [h1, if_neg (by simp)]; exact evNow (by rw [if_neg (by simp)])
theorem numI0 (b : List Int) (hl : b.length ≤ 65536) (hb : ∀ x ∈ b, 0 ≤ x ∧ x ≤ 255) (a : Nat) (h : a ≤ b.length) : Ev (fun k => impl_rv.num k b (a : Int) 0) ((numF b a false).1, ((numF b a false).2.1 : Int), if (numF b a false).2.2 = true then 2 else 0) := by
  unfold impl_rv.num numF
  rw [if_neg (by simp)]
  refine evPos rfl (evBind (gvI b hl hb a h) ?_)
  rcases gv_ok b a hb h with ⟨h1, h2, t, h3, h4, h5⟩ | h1
  · rw [if_pos h1]; refine evNow ?_; rw [if_pos h1, h3]; simp
  · rw [h1, if_neg (by simp)]; exact evNow (by simp)
theorem numI1 (b : List Int) (a c : Int) (h : c ≠ 0) : Ev (fun k => impl_rv.num k b a c) (0, a, c) := by
  unfold impl_rv.num
  exact evNeg h (Ev.now _)
/-- The second number behind a first one. -/
theorem numI2 (b : List Int) (hl : b.length ≤ 65536) (hb : ∀ x ∈ b, 0 ≤ x ∧ x ≤ 255) (a : Nat) (s : Bool) (h : a ≤ b.length) : Ev (fun k => impl_rv.num k b (a : Int) (if s = true then 2 else 0)) ((numF b a s).1, ((numF b a s).2.1 : Int), if (numF b a s).2.2 = true then 2 else 0) := by
  cases s with
  | true => exact evCast (numI1 b a 2 (by decide)) (by simp [numF])
  | false => exact numI0 b hl hb a h
/-! ### bytes taken by a state -/
theorem takeS (q : List Int) (hl : q.length ≤ 65536) (a n : Nat) (h : a + n ≤ q.length) : spec_rv.take q (a : Int) false (n : Int) = some ((q.drop a).take n, ((a + n : Nat) : Int), false) := by
  unfold spec_rv.take
  rw [if_pos ⟨by omega, by omega, by omega, by omega⟩, if_pos rfl, if_neg (by omega)]
  simp
theorem takeS_short (q : List Int) (hl : q.length ≤ 65536) (a n : Nat) (ha : a ≤ q.length) (h : q.length < a + n) : spec_rv.take q (a : Int) false (n : Int) = some ([], (a : Int), true) := by
  unfold spec_rv.take
  rw [if_pos ⟨by omega, by omega, by omega, by omega⟩, if_pos rfl, if_pos (by omega)]
theorem takeS_bad (q : List Int) (hl : q.length ≤ 65536) (a n : Nat) (ha : a ≤ q.length) : spec_rv.take q (a : Int) true (n : Int) = some ([], (a : Int), true) := by
  unfold spec_rv.take
  rw [if_pos ⟨by omega, by omega, by omega, by omega⟩, if_neg (by simp)]
theorem takeI (q : List Int) (hl : q.length ≤ 65536) (a n : Nat) (h : a + n ≤ q.length) : impl_rv.take q (a : Int) 0 (n : Int) = some ((q.drop a).take n, ((a + n : Nat) : Int), 0) := by
  unfold impl_rv.take
  rw [if_pos ⟨by omega, by omega, by omega⟩, if_pos rfl, if_neg (by omega)]
  simp
theorem takeI_short (q : List Int) (hl : q.length ≤ 65536) (a n : Nat) (ha : a ≤ q.length) (h : q.length < a + n) : impl_rv.take q (a : Int) 0 (n : Int) = some ([], (a : Int), 2) := by
  unfold impl_rv.take
  rw [if_pos ⟨by omega, by omega, by omega⟩, if_pos rfl, if_pos (by omega)]
theorem takeI_bad (q : List Int) (hl : q.length ≤ 65536) (a : Nat) (n c : Int) (ha : a ≤ q.length) (hc : c ≠ 0) : impl_rv.take q (a : Int) c n = some ([], (a : Int), c) := by
  unfold impl_rv.take
  rw [if_pos ⟨by omega, by omega, by omega⟩, if_neg hc]
theorem one (q : List Int) (a : Nat) (h : a < q.length) : (q.drop a).take 1 = [q[a]] := by
  rw [List.drop_eq_getElem_cons h]; rfl
theorem hd1 (q : List Int) (hb : ∀ x ∈ q, 0 ≤ x ∧ x ≤ 255) (a : Nat) (h : a < q.length) : impl_rv.hd ((q.drop a).take 1) = q[a] := by
  have := hb _ (List.getElem_mem h)
  rw [one q a h]
  show wrap64 q[a] = q[a]
  exact w64 (by omega) (by omega)
/-! ### the value of some bytes -/
theorem pow4 (i : Nat) (h : i ≤ 4) : (256 : Int) ^ i ≤ 4294967296 := by
  rcases (show i = 0 ∨ i = 1 ∨ i = 2 ∨ i = 3 ∨ i = 4 by omega) with rfl | rfl | rfl | rfl | rfl <;> decide
theorem valS_loop (l : List Int) (hl : l.length ≤ 4) (hb : ∀ x ∈ l, 0 ≤ x ∧ x ≤ 255) : ∀ (d i : Nat) (v : Int), i + d = l.length → 0 ≤ v → v < 256 ^ i → Ev (fun k => spec_l01Value.l0 k l v (i : Int)) (valL v (l.drop i)) := by
  intro d
  induction d with
  | zero =>
    intro i v h h0 h1
    refine evSucc ?_
    simp only [spec_l01Value.l0]
    refine evNeg (by omega) (evNow ?_)
    rw [List.drop_eq_nil_of_le (by omega)]
    rfl
  | succ d ih =>
    intro i v h h0 h1
    have hi : i < l.length := by omega
    have hx := hb _ (List.getElem_mem hi)
    have hp := pow4 i (by omega)
    refine evSucc ?_
    simp only [spec_l01Value.l0]
    refine evPos (by omega) (evPos (by omega) ?_)
    rw [rdN l i hi, w64 (x := l[i]) (by omega) (by omega), w64 (x := v * 256) (by omega) (by omega), w64 (x := v * 256 + l[i]) (by omega) (by omega), w64succ i (by omega), List.drop_eq_getElem_cons hi]
    have e : (256 : Int) ^ (i + 1) = 256 ^ i * 256 := Int.pow_succ _ _
    exact ih (i + 1) (v * 256 + l[i]) (by omega) (by omega) (by rw [e]; omega)
theorem valS (l : List Int) (hl : l.length ≤ 4) (hb : ∀ x ∈ l, 0 ≤ x ∧ x ≤ 255) : Ev (fun k => spec_l01Value.f k l) (valL 0 l) := by
  unfold spec_l01Value.f
  have h := valS_loop l hl hb l.length 0 0 (by omega) (by omega) (by decide)
  simpa using h
theorem valI (l : List Int) (hl : l.length ≤ 4) (hb : ∀ x ∈ l, 0 ≤ x ∧ x ≤ 255) : Ev (fun k => impl_unfixed.f k l) (valL 0 l) := by
  have h1 := valL_lt l 0 hb (by omega)
  have h2 := pow4 l.length hl
  exact evCast (unfF l (by omega) hb) (w64 (by omega) (by omega))
theorem subB (l : List Int) (hb : ∀ x ∈ l, 0 ≤ x ∧ x ≤ 255) (a n : Nat) : ∀ x ∈ (l.drop a).take n, 0 ≤ x ∧ x ≤ 255 := fun x hx => hb x (List.mem_of_mem_drop (List.mem_of_mem_take hx))
theorem fixS (l : List Int) (hl : l.length ≤ 65536) (hb : ∀ x ∈ l, 0 ≤ x ∧ x ≤ 255) (a n : Nat) (hn : n ≤ 4) (h : a + n ≤ l.length) : Ev (fun k => spec_rv.fixed k l (a : Int) false (n : Int)) (valL 0 ((l.drop a).take n), ((a + n : Nat) : Int), false) := by
  unfold spec_rv.fixed
  exact evPut (takeS l hl a n h) (evBind (valS _ (by rw [List.length_take]; omega) (subB l hb a n)) (Ev.now _))
theorem fixS_short (l : List Int) (hl : l.length ≤ 65536) (a n : Nat) (ha : a ≤ l.length) (h : l.length < a + n) : Ev (fun k => spec_rv.fixed k l (a : Int) false (n : Int)) (0, (a : Int), true) := by
  unfold spec_rv.fixed
  exact evPut (takeS_short l hl a n ha h) (evBind (valS [] (by simp) (by simp)) (Ev.now _))
theorem fixS_bad (l : List Int) (hl : l.length ≤ 65536) (a n : Nat) (ha : a ≤ l.length) : Ev (fun k => spec_rv.fixed k l (a : Int) true (n : Int)) (0, (a : Int), true) := by
  unfold spec_rv.fixed
  exact evPut (takeS_bad l hl a n ha) (evBind (valS [] (by simp) (by simp)) (Ev.now _))
theorem fixS1 (l : List Int) (hl : l.length ≤ 65536) (hb : ∀ x ∈ l, 0 ≤ x ∧ x ≤ 255) (a : Nat) (h : a < l.length) : Ev (fun k => spec_rv.fixed k l (a : Int) false 1) (l[a], ((a + 1 : Nat) : Int), false) := by
  have h1 := fixS l hl hb a 1 (by omega) (by omega)
  rw [one l a h] at h1
  have e : valL 0 [l[a]] = l[a] := by simp [valL]
  rw [e] at h1
  exact h1
/-! ### the versions at the end -/
theorem verLoops (l : List Int) (hl : l.length ≤ 65536) (hb : ∀ x ∈ l, 0 ≤ x ∧ x ≤ 255) (a m : Nat) (hm : m ≤ 8) (h : a + 4 * m = l.length) : ∀ (d i : Nat) (acc : List Int), i + d = m → acc.length = i →
    ∃ (o : List Int) (ok : Bool), Ev (fun k => impl_versionsOf.l0 k (l.drop a) acc ((4 * i : Nat) : Int)) (o, ok) ∧ Ev (fun k => spec_rv.vloop k l ((a + 4 * i : Nat) : Int) false acc) o ∧ o.length ≤ 8 ∧ (ok = false → o = []) ∧ (ok = true → o.length = m) := by
  have hr : (l.drop a).length = 4 * m := by rw [List.length_drop]; omega
  intro d
  induction d with
  | zero =>
    intro i acc hi ha
    refine ⟨acc, true, evSucc ?_, evSucc ?_, by omega, by simp, fun _ => by omega⟩
    · simp only [impl_versionsOf.l0]
      exact evNeg (by omega) (Ev.now _)
    · simp only [spec_rv.vloop]
      exact evPos (by omega) (evNeg (by omega) (Ev.now _))
  | succ d ih =>
    intro i acc hi ha
    have e4 : wrap64 (((4 * i : Nat) : Int) + 4) = ((4 * (i + 1) : Nat) : Int) := by rw [w64 (by omega) (by omega)]; omega
    have ec : ((l.drop a).take (((4 * (i + 1) : Nat) : Int)).toNat).drop (((4 * i : Nat) : Int)).toNat = (l.drop (a + 4 * i)).take 4 := by
      rw [Int.toNat_natCast, Int.toNat_natCast, List.drop_take, List.drop_drop, show 4 * (i + 1) - 4 * i = 4 by omega]
    have eI := valI ((l.drop (a + 4 * i)).take 4) (by rw [List.length_take]; omega) (subB l hb _ _)
    have eS := fixS l hl hb (a + 4 * i) 4 (by omega) (by omega)
    generalize valL 0 ((l.drop (a + 4 * i)).take 4) = v at eI eS
    by_cases hv : v = 0
    · refine ⟨[], false, evSucc ?_, evSucc ?_, by simp, by simp, by simp⟩
      · simp only [impl_versionsOf.l0]
        refine evPos (by omega) (evPos (by omega) ?_)
        rw [e4]
        refine evPos (by omega) (evPos (by omega) ?_)
        rw [ec]
        exact evBind eI (evPos hv (Ev.now _))
      · simp only [spec_rv.vloop]
        exact evPos (by omega) (evPos (by omega) (evBind eS (evPos hv (Ev.now _))))
    · obtain ⟨o, ok, h1, h2, h3⟩ := ih (i + 1) (acc ++ [v]) (by omega) (by simp; omega)
      refine ⟨o, ok, evSucc ?_, evSucc ?_, h3⟩
      · simp only [impl_versionsOf.l0]
        refine evPos (by omega) (evPos (by omega) ?_)
        rw [e4]
        refine evPos (by omega) (evPos (by omega) ?_)
        rw [ec]
        exact evBind eI (evNeg hv (evPos (by omega) h1))
      · simp only [spec_rv.vloop]
        exact evPos (by omega) (evPos (by omega) (evBind eS (evNeg hv h2)))
theorem verEq (l : List Int) (hl : l.length ≤ 65536) (hb : ∀ x ∈ l, 0 ≤ x ∧ x ≤ 255) (a : Nat) (ha : a ≤ l.length) :
    ∃ (o : List Int) (ok : Bool), Ev (fun k => impl_versionsOf.f k (l.drop a)) (o, ok) ∧ Ev (fun k => spec_rv.vers k l (a : Int)) o ∧ o.length ≤ 8 ∧ (ok = true ↔ o.length ≠ 0) := by
  have hr : ((l.drop a).length : Int) = (l.length : Int) - a := by rw [List.length_drop]; omega
  unfold impl_versionsOf.f spec_rv.vers
  have hk : ∀ {g : Nat → Option (List Int)} {r}, Ev g r → Ev (fun k => if 0 ≤ (a : Int) ∧ (a : Int) ≤ l.length ∧ l.length ≤ 1000000 then g k else none) r := fun h => evPos ⟨by omega, by omega, by omega⟩ h
  by_cases h0 : (l.length : Int) - a = 0
  · refine ⟨[], false, evPos (by omega) (evSucc ?_), hk (evPos (by omega) (evPos (by omega) (Ev.now _))), by simp, by simp⟩
    simp only [impl_versionsOf.j0]; exact evPos (by simp) (Ev.now _)
  · by_cases h4 : ((l.length : Int) - a) % 4 = 0
    · by_cases h32 : 32 < (l.length : Int) - a
      · refine ⟨[], false, evNeg (by omega) (evPos (by omega) (evSucc ?_)), hk (evPos h4 (evNeg (by omega) (evPos h32 (Ev.now _)))), by simp, by simp⟩
        simp only [impl_versionsOf.j0]; exact evPos (by simp; omega) (Ev.now _)
      · obtain ⟨m, hm⟩ : ∃ m : Nat, a + 4 * m = l.length := ⟨(l.length - a) / 4, by omega⟩
        obtain ⟨o, ok, h1, h2, h3, h5, h6⟩ := verLoops l hl hb a m (by omega) hm m 0 [] (by omega) rfl
        refine ⟨o, ok, evNeg (by omega) (evPos (by omega) (evSucc ?_)), hk (evPos h4 (evNeg (by omega) (evNeg h32 ?_))), h3, ?_⟩
        · simp only [impl_versionsOf.j0]; exact evNeg (by simp; omega) h1
        · exact h2
        · constructor
          · intro h; have := h6 h; omega
          · intro h
            cases ok with
            | true => rfl
            | false => exact absurd (by rw [h5 rfl]; rfl) h
    · refine ⟨[], false, evNeg (by omega) (evNeg (by omega) (evSucc ?_)), hk (evNeg h4 (Ev.now _)), by simp, by simp⟩
      simp only [impl_versionsOf.j0]; exact evPos (by simp) (Ev.now _)
/-! ### how a reading ends that tells no versions -/
/-- What is told of a header that is none with versions: c. -/
def Ends (r : Int × Nat × Nat × Int) (c : Int) : Prop := (r.2.2.2 = c ∧ c ≠ 0) ∨ (r.2.2.2 = 0 ∧ r.1 ≠ 5 ∧ c = 3)
theorem rest3_bad (l : List Int) (hl : l.length ≤ 65536) (f : Int) (dl sl a : Nat) (c : Int) (ha : a ≤ l.length) (hc : c ≠ 0) : Ev (fun k => impl_rv.rest3 k l f dl sl (a : Int) c) (f, dl, sl, c) := by
  unfold impl_rv.rest3
  refine evBind (numI1 l a c hc) ?_
  refine evPut (a := ([], (a : Int), c)) ?_ (Ev.now _)
  show impl_rv.take l (a : Int) (if c = 0 ∧ _ then 3 else c) 0 = _
  rw [if_neg (fun h => hc h.1)]
  exact takeI_bad l hl a 0 c ha hc
theorem tails (l : List Int) (hl : l.length ≤ 65536) (hb : ∀ x ∈ l, 0 ≤ x ∧ x ≤ 255) (f g : Int) (hf : f ≠ 5) (hg : g ≠ 5) (dl sl a : Nat) (s : Bool) (ha : a ≤ l.length) :
    ∃ ri rs c, Ev (fun k => impl_rv.rest3 k l f dl sl (a : Int) (if s = true then 2 else 0)) ri ∧ Ev (fun k => spec_rv.tail k l g dl sl (a : Int) s) rs ∧ Ends ri c ∧ Ends rs c := by
  have n1 := numF_ok l hb a s ha
  have e1 := numS l hl hb a s ha
  have i1 := numI2 l hl hb a s ha
  generalize numF l a s = x1 at n1 e1 i1
  obtain ⟨v, a1, s1⟩ := x1
  simp only at n1 e1 i1
  unfold impl_rv.rest3 spec_rv.tail
  cases s1 with
  | true =>
    have i1 : Ev (fun k => impl_rv.num k l (a : Int) (if s = true then 2 else 0)) (v, (a1 : Int), 2) := i1
    refine ⟨(f, dl, sl, 2), (0, 0, 0, 2), 2, evBind i1 (evPut (a := ([], (a1 : Int), 2)) ?_ (Ev.now _)), evBind e1 (evPos rfl (Ev.now _)), .inl ⟨rfl, by decide⟩, .inl ⟨rfl, by decide⟩⟩
    show impl_rv.take l (a1 : Int) (if (2 : Int) = 0 ∧ _ then 3 else 2) v = _
    rw [if_neg (fun h => absurd h.1 (by decide))]
    exact takeI_bad l hl a1 v 2 n1.2.2.1 (by decide)
  | false =>
    have i1 : Ev (fun k => impl_rv.num k l (a : Int) (if s = true then 2 else 0)) (v, (a1 : Int), 0) := i1
    by_cases hv : v < 12 ∨ 1508 < v
    · refine ⟨(f, dl, sl, 3), (0, 0, 0, 3), 3, evBind i1 (evPut (a := ([], (a1 : Int), 3)) ?_ (Ev.now _)), evBind e1 (evNeg (by simp) (evPos hv (Ev.now _))), .inl ⟨rfl, by decide⟩, .inl ⟨rfl, by decide⟩⟩
      show impl_rv.take l (a1 : Int) (if (0 : Int) = 0 ∧ (v < 12 ∨ 1508 < v) then 3 else 0) v = _
      rw [if_pos ⟨rfl, hv⟩]
      exact takeI_bad l hl a1 v 3 n1.2.2.1 (by decide)
    · obtain ⟨n, rfl⟩ : ∃ n : Nat, v = (n : Int) := ⟨v.toNat, by omega⟩
      by_cases hn : a1 + n ≤ l.length
      · refine ⟨(f, dl, sl, 0), (g, dl, sl, 0), 3, evBind i1 (evPut (a := ((l.drop a1).take n, ((a1 + n : Nat) : Int), 0)) ?_ (Ev.now _)), evBind e1 (evNeg (by simp) (evNeg hv (evPut (takeS l hl a1 n hn) (evNeg (by simp) (Ev.now _))))), .inr ⟨rfl, hf, rfl⟩, .inr ⟨rfl, hg, rfl⟩⟩
        show impl_rv.take l (a1 : Int) (if (0 : Int) = 0 ∧ ((n : Int) < 12 ∨ 1508 < (n : Int)) then 3 else 0) (n : Int) = _
        rw [if_neg (fun h => hv h.2)]
        exact takeI l hl a1 n hn
      · refine ⟨(f, dl, sl, 2), (0, 0, 0, 2), 2, evBind i1 (evPut (a := ([], (a1 : Int), 2)) ?_ (Ev.now _)), evBind e1 (evNeg (by simp) (evNeg hv (evPut (takeS_short l hl a1 n n1.2.2.1 (by omega)) (evPos rfl (Ev.now _))))), .inl ⟨rfl, by decide⟩, .inl ⟨rfl, by decide⟩⟩
        show impl_rv.take l (a1 : Int) (if (0 : Int) = 0 ∧ ((n : Int) < 12 ∨ 1508 < (n : Int)) then 3 else 0) (n : Int) = _
        rw [if_neg (fun h => hv h.2)]
        exact takeI_short l hl a1 n n1.2.2.1 (by omega)
theorem quoEq (b : Int) (h0 : 192 ≤ b) (h1 : b ≤ 255) : impl_rv.quo b = (b - 192) / 16 ∧ spec_rv.quo b = (b - 192) / 16 := by
  have e : (wrap64 (b - 192)).tdiv 16 = (b - 192) / 16 := by rw [w64 (by omega) (by omega), Int.tdiv_eq_ediv_of_nonneg (by omega)]
  exact ⟨e, e⟩
/-- How the two headers stand to one another. -/
def Same (l : List Int) (ri rs : Int × Nat × Nat × Int) : Prop := (∃ dl sl : Nat, ri = (5, dl, sl, 0) ∧ rs = (5, dl, sl, 0) ∧ 7 + dl + sl ≤ l.length) ∨ ∃ c, Ends ri c ∧ Ends rs c
theorem Same.of {l : List Int} (a b c d : Nat) (f g e : Int) (h : e ≠ 0) : Same l (f, a, b, e) (g, c, d, e) := .inr ⟨e, .inl ⟨rfl, h⟩, .inl ⟨rfl, h⟩⟩
theorem mids (l : List Int) (hl : l.length ≤ 65536) (hb : ∀ x ∈ l, 0 ≤ x ∧ x ≤ 255) (dl sl a : Nat) (ha : a ≤ l.length) :
    ∃ ri rs c, Ev (fun k => (impl_rv.mid k l 0 (a : Int)).bind fun m => impl_rv.rest3 k l 1 dl sl m.1 m.2) ri ∧ Ev (fun k => (spec_rv.num k l (a : Int) false).bind fun n => if n.2.2 = true then some (0, 0, 0, 2) else if 64 < n.1 then some (0, 0, 0, 3) else (spec_rv.take l n.2.1 false n.1).bind fun t => spec_rv.tail k l 1 dl sl t.2.1 t.2.2) rs ∧ Ends ri c ∧ Ends rs c := by
  have n1 := numF_ok l hb a false ha
  have e1 := numS l hl hb a false ha
  have i1 := numI0 l hl hb a ha
  generalize numF l a false = x1 at n1 e1 i1
  obtain ⟨v, a1, s1⟩ := x1
  simp only at n1 e1 i1
  have m1 : ∀ (r : List Int × Int × Int), impl_rv.take l (a1 : Int) (if 64 < v ∧ (if s1 = true then (2 : Int) else 0) = 0 then 3 else (if s1 = true then 2 else 0)) v = some r → Ev (fun k => impl_rv.mid k l 0 (a : Int)) (r.2.1, r.2.2) := by
    intro r hr
    unfold impl_rv.mid
    exact evNeg (by decide) (evBind i1 (evPut hr (Ev.now _)))
  cases s1 with
  | true =>
    refine ⟨_, _, 2, evBind (m1 ([], (a1 : Int), 2) ?_) (rest3_bad l hl 1 dl sl a1 2 n1.2.2.1 (by decide)), evBind e1 (evPos rfl (Ev.now _)), .inl ⟨rfl, by decide⟩, .inl ⟨rfl, by decide⟩⟩
    show impl_rv.take l (a1 : Int) (if 64 < v ∧ (2 : Int) = 0 then 3 else 2) v = _
    rw [if_neg (fun h => absurd h.2 (by decide))]
    exact takeI_bad l hl a1 v 2 n1.2.2.1 (by decide)
  | false =>
    by_cases hv : 64 < v
    · refine ⟨_, _, 3, evBind (m1 ([], (a1 : Int), 3) ?_) (rest3_bad l hl 1 dl sl a1 3 n1.2.2.1 (by decide)), evBind e1 (evNeg (by simp) (evPos hv (Ev.now _))), .inl ⟨rfl, by decide⟩, .inl ⟨rfl, by decide⟩⟩
      show impl_rv.take l (a1 : Int) (if 64 < v ∧ (0 : Int) = 0 then 3 else 0) v = _
      rw [if_pos ⟨hv, rfl⟩]
      exact takeI_bad l hl a1 v 3 n1.2.2.1 (by decide)
    · obtain ⟨n, rfl⟩ : ∃ n : Nat, v = (n : Int) := ⟨v.toNat, by omega⟩
      by_cases hn : a1 + n ≤ l.length
      · obtain ⟨ri, rs, c, h1, h2, h3, h4⟩ := tails l hl hb 1 1 (by decide) (by decide) dl sl (a1 + n) false hn
        refine ⟨ri, rs, c, evBind (m1 ((l.drop a1).take n, ((a1 + n : Nat) : Int), 0) ?_) h1, evBind e1 (evNeg (by simp) (evNeg hv (evPut (takeS l hl a1 n hn) h2))), h3, h4⟩
        show impl_rv.take l (a1 : Int) (if 64 < (n : Int) ∧ (0 : Int) = 0 then 3 else 0) (n : Int) = _
        rw [if_neg (fun h => hv h.1)]
        exact takeI l hl a1 n hn
      · obtain ⟨ri, rs, c, h1, h2, h3, h4⟩ := tails l hl hb 1 1 (by decide) (by decide) dl sl a1 true n1.2.2.1
        refine ⟨ri, rs, c, evBind (m1 ([], (a1 : Int), 2) ?_) h1, evBind e1 (evNeg (by simp) (evNeg hv (evPut (takeS_short l hl a1 n n1.2.2.1 (by omega)) h2))), h3, h4⟩
        show impl_rv.take l (a1 : Int) (if 64 < (n : Int) ∧ (0 : Int) = 0 then 3 else 0) (n : Int) = _
        rw [if_neg (fun h => hv h.1)]
        exact takeI_short l hl a1 n n1.2.2.1 (by omega)
theorem rest2s (l : List Int) (hl : l.length ≤ 65536) (hb : ∀ x ∈ l, 0 ≤ x ∧ x ≤ 255) (b ver : Int) (hb1 : b ≤ 255) (dl sl a : Nat) (ha : a ≤ l.length) (he : 7 + dl + sl = a) :
    ∃ ri rs, Ev (fun k => impl_rv.rest2 k l b ver dl sl (a : Int) 0) ri ∧ Ev (fun k => spec_rv.rest2 k l b ver dl sl (a : Int)) rs ∧ Same l ri rs := by
  have key : ∀ {g : Nat → Option (Int × Nat × Nat × Int)} {r}, Ev g r → Ev (fun k => if (0 : Int) = 0 then (if 0 ≤ (a : Int) ∧ (a : Int) ≤ l.length then g k else none) else some (0, dl, sl, 0)) r := fun h => evPos rfl (evPos ⟨by omega, by omega⟩ h)
  unfold impl_rv.rest2 spec_rv.rest2
  by_cases hv : ver = 0
  · obtain ⟨o, ok, h1, h2, h3, h4⟩ := verEq l hl hb a ha
    by_cases h128 : b = 128
    · cases ok with
      | true =>
        refine ⟨_, _, key (evPos hv ?_), evPos hv (evPos h128 (evBind h2 (evNeg (h4.1 rfl) (Ev.now _)))), .inl ⟨dl, sl, rfl, rfl, by omega⟩⟩
        rw [Int.toNat_natCast]
        exact evBind h1 (evNow (by rw [if_pos ⟨h128, rfl⟩]))
      | false =>
        have h0 : o.length = 0 := by
          by_cases h : o.length = 0
          · exact h
          · exact absurd (h4.2 h) (by simp)
        refine ⟨(5, dl, sl, 3), _, key (evPos hv ?_), evPos hv (evPos h128 (evBind h2 (evPos h0 (Ev.now _)))), Same.of _ _ _ _ _ _ 3 (by decide)⟩
        rw [Int.toNat_natCast]
        exact evBind h1 (evNow (by rw [if_neg (by simp)]))
    · refine ⟨(5, dl, sl, 3), _, key (evPos hv ?_), evPos hv (evNeg h128 (Ev.now _)), Same.of _ _ _ _ _ _ 3 (by decide)⟩
      rw [Int.toNat_natCast]
      exact evBind h1 (evNow (by rw [if_neg (fun h => h128 h.1)]))
  · by_cases h192 : b < 192
    · exact ⟨_, _, key (evNeg hv (evPos (.inl h192) (Ev.now _))), evNeg hv (evPos (.inl h192) (Ev.now _)), Same.of _ _ _ _ _ _ 3 (by decide)⟩
    · obtain ⟨q1, q2⟩ := quoEq b (by omega) hb1
      rw [q1, q2]
      generalize hq : (b - 192) / 16 = q
      have hq0 : 0 ≤ q ∧ q ≤ 3 := by omega
      by_cases c1 : q = 1
      · exact ⟨_, _, key (evNeg hv (evPos (.inr c1) (Ev.now _))), evNeg hv (evPos (.inr c1) (Ev.now _)), Same.of _ _ _ _ _ _ 3 (by decide)⟩
      · by_cases c3 : q = 3
        · unfold spec_rv.retry
          by_cases d1 : (l.length : Int) - a < 9
          · refine ⟨(3, dl, sl, 2), _, key (evNeg hv (evNeg (fun h => h.elim h192 c1) (evPos c3 (evNow (by rw [if_pos d1]))))), evNeg hv (evNeg (fun h => h.elim h192 c1) (evPos c3 (evPos ⟨by omega, by omega, by omega⟩ (evPos (by omega) (Ev.now _))))), Same.of _ _ _ _ _ _ 2 (by decide)⟩
          · by_cases d2 : 64 < (l.length : Int) - a - 8
            · exact ⟨(3, dl, sl, 3), _, key (evNeg hv (evNeg (fun h => h.elim h192 c1) (evPos c3 (evNow (by rw [if_neg d1, if_pos d2]))))), evNeg hv (evNeg (fun h => h.elim h192 c1) (evPos c3 (evPos ⟨by omega, by omega, by omega⟩ (evNeg (by omega) (evPos d2 (Ev.now _)))))), Same.of _ _ _ _ _ _ 3 (by decide)⟩
            · obtain ⟨n, hn⟩ : ∃ n : Nat, (l.length : Int) - a - 8 = (n : Int) := ⟨((l.length : Int) - a - 8).toNat, by omega⟩
              refine ⟨(3, dl, sl, 0), (3, dl, sl, 0), key (evNeg hv (evNeg (fun h => h.elim h192 c1) (evPos c3 (evNow (by rw [if_neg d1, if_neg d2]))))), evNeg hv (evNeg (fun h => h.elim h192 c1) (evPos c3 (evPos ⟨by omega, by omega, by omega⟩ (evNeg (by omega) (evNeg d2 ?_))))), .inr ⟨3, .inr ⟨rfl, (by show (3 : Int) ≠ 5; decide), rfl⟩, .inr ⟨rfl, (by show (3 : Int) ≠ 5; decide), rfl⟩⟩⟩
              rw [hn]
              exact evPut (takeS l hl a n (by omega)) (Ev.now _)
        · by_cases c0 : q = 0
          · subst c0
            obtain ⟨ri, rs, c, h1, h2, h3, h4⟩ := mids l hl hb dl sl a ha
            refine ⟨ri, rs, key (evNeg hv (evNeg (fun h => h.elim h192 c1) (evNeg c3 ?_))), evNeg hv (evNeg (fun h => h.elim h192 c1) (evNeg c3 (evPos rfl h2))), .inr ⟨c, h3, h4⟩⟩
            rw [if_neg (by decide)]
            exact h1
          · have c2 : q = 2 := by omega
            subst c2
            obtain ⟨ri, rs, c, h1, h2, h3, h4⟩ := tails l hl hb 2 2 (by decide) (by decide) dl sl a false ha
            refine ⟨ri, rs, key (evNeg hv (evNeg (fun h => h.elim h192 c1) (evNeg c3 ?_))), evNeg hv (evNeg (fun h => h.elim h192 c1) (evNeg c3 (evNeg (by decide) h2))), .inr ⟨c, h3, h4⟩⟩
            rw [if_pos rfl]
            refine evBind (a := ((a : Int), 0)) ?_ h1
            unfold impl_rv.mid
            exact evPos rfl (Ev.now _)
/-! ### the ids ahead -/
theorem cid_bad (l : List Int) (hl : l.length ≤ 65536) (a : Nat) (c : Int) (ha : a ≤ l.length) (hc : c ≠ 0) : impl_rv.cid l (a : Int) c = some ([], (a : Int), c) := by
  unfold impl_rv.cid
  rw [takeI_bad l hl a 1 c ha hc]
  show impl_rv.take l (a : Int) (if 8 < impl_rv.hd [] ∧ c = 0 then 3 else c) (impl_rv.hd []) = _
  rw [if_neg (fun h => hc h.2)]
  exact takeI_bad l hl a _ c ha hc
theorem cid_short (l : List Int) (hl : l.length ≤ 65536) (a : Nat) (ha : a = l.length) : impl_rv.cid l (a : Int) 0 = some ([], (a : Int), 2) := by
  unfold impl_rv.cid
  have h := takeI_short l hl a 1 (by omega) (by omega)
  rw [show ((1 : Nat) : Int) = 1 from rfl] at h
  rw [h]
  show impl_rv.take l (a : Int) (if 8 < impl_rv.hd [] ∧ (2 : Int) = 0 then 3 else 2) (impl_rv.hd []) = _
  rw [if_neg (fun h => absurd h.2 (by decide))]
  exact takeI_bad l hl a _ 2 (by omega) (by decide)
theorem cid_at (l : List Int) (hl : l.length ≤ 65536) (hb : ∀ x ∈ l, 0 ≤ x ∧ x ≤ 255) (a : Nat) (h : a < l.length) : impl_rv.cid l (a : Int) 0 = impl_rv.take l ((a + 1 : Nat) : Int) (if 8 < l[a] then 3 else 0) l[a] := by
  unfold impl_rv.cid
  have e := takeI l hl a 1 (by omega)
  rw [show ((1 : Nat) : Int) = 1 from rfl] at e
  rw [e]
  show impl_rv.take l ((a + 1 : Nat) : Int) (if 8 < impl_rv.hd ((l.drop a).take 1) ∧ (0 : Int) = 0 then 3 else 0) (impl_rv.hd ((l.drop a).take 1)) = _
  rw [hd1 l hb a h]
  simp
theorem rest1_tail (l : List Int) (hl : l.length ≤ 65536) (b ver : Int) (d : List Int) (a : Nat) (c : Int) (ha : a ≤ l.length) (hc : c ≠ 0) : Ev (fun k => (impl_rv.cid l (a : Int) c).bind fun s => impl_rv.rest2 k l b ver d.length s.1.length s.2.1 s.2.2) (0, d.length, 0, c) := by
  refine evPut (cid_bad l hl a c ha hc) ?_
  unfold impl_rv.rest2
  exact evNeg hc (Ev.now _)
theorem rest1_bad (l : List Int) (hl : l.length ≤ 65536) (b : Int) (a : Nat) (c : Int) (ha : a ≤ l.length) (hc : c ≠ 0) : Ev (fun k => impl_rv.rest1 k l b (a : Int) c) (0, 0, 0, c) := by
  unfold impl_rv.rest1
  refine evPut (takeI_bad l hl a 4 c ha hc) (evBind (valI [] (by simp) (by simp)) (evPut (cid_bad l hl a c ha hc) ?_))
  exact rest1_tail l hl b _ [] a c ha hc
theorem rest1s (l : List Int) (hl : l.length ≤ 65536) (hb : ∀ x ∈ l, 0 ≤ x ∧ x ≤ 255) (b : Int) (hb1 : b ≤ 255) (h1 : 1 ≤ l.length) :
    ∃ ri rs, Ev (fun k => impl_rv.rest1 k l b 1 0) ri ∧ Ev (fun k => spec_rv.rest1 k l b 1) rs ∧ Same l ri rs := by
  unfold impl_rv.rest1 spec_rv.rest1
  by_cases h5 : 5 ≤ l.length
  · have eI := valI ((l.drop 1).take 4) (by rw [List.length_take]; omega) (subB l hb _ _)
    have eS := fixS l hl hb 1 4 (by omega) (by omega)
    generalize valL 0 ((l.drop 1).take 4) = ver at eI eS
    have keyI : ∀ {r}, Ev (fun k => (impl_rv.cid l 5 0).bind fun d => (impl_rv.cid l d.2.1 d.2.2).bind fun s => impl_rv.rest2 k l b ver d.1.length s.1.length s.2.1 s.2.2) r → Ev (fun k => (impl_rv.take l 1 0 4).bind fun v => (impl_unfixed.f k v.1).bind fun ver => (impl_rv.cid l v.2.1 v.2.2).bind fun d => (impl_rv.cid l d.2.1 d.2.2).bind fun s => impl_rv.rest2 k l b ver d.1.length s.1.length s.2.1 s.2.2) r :=
      fun h => evPut (takeI l hl 1 4 (by omega)) (evBind eI h)
    by_cases h6 : 6 ≤ l.length
    · have f5 := fixS1 l hl hb 5 (by omega)
      have x5 := hb _ (List.getElem_mem (show 5 < l.length by omega))
      have i5 := cid_at l hl hb 5 (by omega)
      generalize l[5] = n at f5 x5 i5
      by_cases h8 : 8 < n
      · rw [if_pos h8, takeI_bad l hl 6 n 3 (by omega) (by decide)] at i5
        exact ⟨_, _, keyI (evPut i5 (rest1_tail l hl b ver [] 6 3 (by omega) (by decide))), evBind eS (evBind f5 (evNeg (by simp) (evPos h8 (Ev.now _)))), Same.of _ _ _ _ _ _ 3 (by decide)⟩
      · rw [if_neg h8] at i5
        obtain ⟨m, rfl⟩ : ∃ m : Nat, n = (m : Int) := ⟨n.toNat, by omega⟩
        by_cases hm : 6 + m ≤ l.length
        · rw [takeI l hl 6 m hm] at i5
          have dlen : ((l.drop 6).take m).length = m := by rw [List.length_take, List.length_drop]; omega
          have keyS : ∀ {r}, Ev (fun k => (spec_rv.fixed k l ((6 + m : Nat) : Int) false 1).bind fun x => if x.2.2 = true then some (0, 0, 0, 2) else if 8 < x.1 then some (0, 0, 0, 3) else (spec_rv.take l x.2.1 false x.1).bind fun s => if s.2.2 = true then some (0, 0, 0, 2) else spec_rv.rest2 k l b ver ((l.drop 6).take m).length s.1.length s.2.1) r →
              Ev (fun k => (spec_rv.fixed k l 1 false 4).bind fun v => (spec_rv.fixed k l v.2.1 v.2.2 1).bind fun n => if n.2.2 = true then some (0, 0, 0, 2) else if 8 < n.1 then some (0, 0, 0, 3) else (spec_rv.take l n.2.1 false n.1).bind fun d => (spec_rv.fixed k l d.2.1 d.2.2 1).bind fun x => if x.2.2 = true then some (0, 0, 0, 2) else if 8 < x.1 then some (0, 0, 0, 3) else (spec_rv.take l x.2.1 false x.1).bind fun s => if s.2.2 = true then some (0, 0, 0, 2) else spec_rv.rest2 k l b v.1 d.1.length s.1.length s.2.1) r :=
            fun h => evBind eS (evBind f5 (evNeg (by simp) (evNeg h8 (evPut (takeS l hl 6 m hm) h))))
          by_cases h7 : 6 + m < l.length
          · have fp := fixS1 l hl hb (6 + m) h7
            have xp := hb _ (List.getElem_mem h7)
            have ip := cid_at l hl hb (6 + m) h7
            generalize l[6 + m] = n2 at fp xp ip
            by_cases h9 : 8 < n2
            · rw [if_pos h9, takeI_bad l hl (6 + m + 1) n2 3 (by omega) (by decide)] at ip
              refine ⟨_, _, keyI (evPut i5 (evPut ip ?_)), keyS (evBind fp (evNeg (by simp) (evPos h9 (Ev.now _)))), Same.of m 0 _ _ 0 _ 3 (by decide)⟩
              unfold impl_rv.rest2
              exact evNeg (by intro h_; exact absurd (show (3 : Int) = 0 from h_) (by decide)) (evNow (by rw [dlen]; rfl))
            · rw [if_neg h9] at ip
              obtain ⟨m2, rfl⟩ : ∃ m : Nat, n2 = (m : Int) := ⟨n2.toNat, by omega⟩
              by_cases hm2 : 6 + m + 1 + m2 ≤ l.length
              · rw [takeI l hl (6 + m + 1) m2 hm2] at ip
                have slen : ((l.drop (6 + m + 1)).take m2).length = m2 := by rw [List.length_take, List.length_drop]; omega
                obtain ⟨ri, rs, r1, r2, r3⟩ := rest2s l hl hb b ver hb1 m m2 (6 + m + 1 + m2) hm2 (by omega)
                refine ⟨ri, rs, keyI (evPut i5 (evPut ip ?_)), keyS (evBind fp (evNeg (by simp) (evNeg h9 (evPut (takeS l hl (6 + m + 1) m2 hm2) (evNeg (by simp) ?_))))), r3⟩
                · rw [dlen, slen]; exact r1
                · rw [dlen, slen]; exact r2
              · rw [takeI_short l hl (6 + m + 1) m2 (by omega) (by omega)] at ip
                refine ⟨_, _, keyI (evPut i5 (evPut ip ?_)), keyS (evBind fp (evNeg (by simp) (evNeg h9 (evPut (takeS_short l hl (6 + m + 1) m2 (by omega) (by omega)) (evPos rfl (Ev.now _)))))), Same.of m 0 _ _ 0 _ 2 (by decide)⟩
                unfold impl_rv.rest2
                exact evNeg (by intro h_; exact absurd (show (2 : Int) = 0 from h_) (by decide)) (evNow (by rw [dlen]; rfl))
          · have ip := cid_short l hl (6 + m) (by omega)
            refine ⟨_, _, keyI (evPut i5 (evPut ip ?_)), keyS (evBind (fixS_short l hl (6 + m) 1 hm (by omega)) (evPos rfl (Ev.now _))), Same.of m 0 _ _ 0 _ 2 (by decide)⟩
            unfold impl_rv.rest2
            exact evNeg (by intro h_; exact absurd (show (2 : Int) = 0 from h_) (by decide)) (evNow (by rw [dlen]; rfl))
        · rw [takeI_short l hl 6 m (by omega) (by omega)] at i5
          exact ⟨_, _, keyI (evPut i5 (rest1_tail l hl b ver [] 6 2 (by omega) (by decide))), evBind eS (evBind f5 (evNeg (by simp) (evNeg h8 (evPut (takeS_short l hl 6 m (by omega) (by omega)) (evBind (fixS_bad l hl 6 1 (by omega)) (evPos rfl (Ev.now _))))))), Same.of _ _ _ _ _ _ 2 (by decide)⟩
    · have i5 := cid_short l hl 5 (by omega)
      exact ⟨_, _, keyI (evPut i5 (rest1_tail l hl b ver [] 5 2 (by omega) (by decide))), evBind eS (evBind (fixS_short l hl 5 1 (by omega) (by omega)) (evPos rfl (Ev.now _))), Same.of _ _ _ _ _ _ 2 (by decide)⟩
  · refine ⟨_, _, evPut (takeI_short l hl 1 4 (by omega) (by omega)) (evBind (valI [] (by simp) (by simp)) (evPut (cid_bad l hl 1 2 (by omega) (by decide)) (rest1_tail l hl b _ [] 1 2 (by omega) (by decide)))), evBind (fixS_short l hl 1 4 (by omega) (by omega)) (evBind (fixS_bad l hl 1 1 (by omega)) (evPos rfl (Ev.now _))), Same.of _ _ _ _ _ _ 2 (by decide)⟩
theorem peeks (l : List Int) (hl : l.length ≤ 65536) (hb : ∀ x ∈ l, 0 ≤ x ∧ x ≤ 255) :
    ∃ ri rs, Ev (fun k => impl_rv.peek k l) ri ∧ Ev (fun k => spec_rv.peek k l) rs ∧ Same l ri rs := by
  unfold impl_rv.peek spec_rv.peek
  by_cases h1 : 1 ≤ l.length
  · have f0 := fixS1 l hl hb 0 (by omega)
    have x0 := hb _ (List.getElem_mem (show 0 < l.length by omega))
    have i0 := takeI l hl 0 1 (by omega)
    have hd0 := hd1 l hb 0 (by omega)
    generalize l[0] = b at f0 x0 hd0
    by_cases c1 : b < 64
    · refine ⟨_, _, evPut i0 (evNeg (fun h => by have h2 := h.2.1; rw [show impl_rv.hd ((l.drop 0).take 1) = b from hd0] at h2; omega) ?_), evBind f0 (evNeg (by simp) (evPos c1 (Ev.now _))), Same.of 0 0 _ _ 0 _ 3 (by decide)⟩
      show Ev (fun k => impl_rv.rest1 k l (impl_rv.hd ((l.drop 0).take 1)) ((0 + 1 : Nat) : Int) (if impl_rv.hd ((l.drop 0).take 1) < 64 ∧ (0 : Int) = 0 then 3 else 0)) _
      rw [hd0, if_pos ⟨c1, rfl⟩]
      exact rest1_bad l hl b 1 3 (by omega) (by decide)
    · by_cases c2 : b < 128
      · have t1 := takeI l hl 1 0 (by omega)
        have s1 := takeS l hl 1 0 (by omega)
        by_cases c3 : 13 ≤ l.length
        · refine ⟨(4, 0, 0, 0), (4, 0, 0, 0), evPut i0 (evPos ⟨rfl, by rw [hd0]; omega, by rw [hd0]; exact c2⟩ (evPut t1 (evPut (takeI l hl 1 12 (by omega)) (evNow (by simp))))), evBind f0 (evNeg (by simp) (evNeg c1 (evPos c2 (evPut s1 (evNeg (by simp) (evNeg (by simp; omega) (evNow (by simp)))))))), .inr ⟨3, .inr ⟨rfl, by decide, rfl⟩, .inr ⟨rfl, by decide, rfl⟩⟩⟩
        · refine ⟨(4, 0, 0, 2), (0, 0, 0, 2), evPut i0 (evPos ⟨rfl, by rw [hd0]; omega, by rw [hd0]; exact c2⟩ (evPut t1 (evPut (takeI_short l hl 1 12 (by omega) (by omega)) (evNow (by simp))))), evBind f0 (evNeg (by simp) (evNeg c1 (evPos c2 (evPut s1 (evNeg (by simp) (evPos (by simp; omega) (Ev.now _))))))), Same.of _ _ _ _ _ _ 2 (by decide)⟩
      · obtain ⟨ri, rs, r1, r2, r3⟩ := rest1s l hl hb b x0.2 h1
        refine ⟨ri, rs, evPut i0 (evNeg (fun h => by have h2 := h.2.2; rw [show impl_rv.hd ((l.drop 0).take 1) = b from hd0] at h2; omega) ?_), evBind f0 (evNeg (by simp) (evNeg c1 (evNeg c2 r2))), r3⟩
        show Ev (fun k => impl_rv.rest1 k l (impl_rv.hd ((l.drop 0).take 1)) ((0 + 1 : Nat) : Int) (if impl_rv.hd ((l.drop 0).take 1) < 64 ∧ (0 : Int) = 0 then 3 else 0)) _
        rw [hd0, if_neg (fun h => c1 h.1)]
        exact r1
  · refine ⟨_, _, evPut (takeI_short l hl 0 1 (by omega) (by omega)) (evNeg (fun h => absurd h.1 (by decide)) ?_), evBind (fixS_short l hl 0 1 (by omega) (by omega)) (evPos rfl (Ev.now _)), Same.of 0 0 _ _ 0 _ 2 (by decide)⟩
    show Ev (fun k => impl_rv.rest1 k l (impl_rv.hd []) ((0 : Nat) : Int) (if impl_rv.hd [] < 64 ∧ (2 : Int) = 0 then 3 else 2)) _
    rw [if_neg (fun h => absurd h.2 (by decide))]
    exact rest1_bad l hl _ 0 2 (by omega) (by decide)
theorem readBoth (l : List Int) (hb : ∀ x ∈ l, 0 ≤ x ∧ x ≤ 255) : ∃ (o : List Int) (c : Int), Ev (fun k => impl_ReadVersions.f k l) (o, c) ∧ Ev (fun k => spec_ReadVersions.f k l) (o, c) ∧ o.length ≤ 8 := by
  unfold impl_ReadVersions.f spec_ReadVersions.f impl_rv.Peek0 spec_rv.Peek0
  by_cases hL : 65536 < l.length
  · exact ⟨[], 4, evBind (evPos hL (Ev.now _)) (evNeg (by decide) (Ev.now _)), evBind (evPos hL (Ev.now _)) (evNeg (by decide) (Ev.now _)), by simp⟩
  · have hl : l.length ≤ 65536 := by omega
    obtain ⟨ri, rs, h1, h2, h3⟩ := peeks l hl hb
    have keyI : Ev (fun k => if 65536 < l.length then some (0, 0, 0, 4) else (impl_rv.peek k l).bind fun r => if r.2.2.2 = 0 then some (r.1, r.2.1, r.2.2.1, 0) else some (0, 0, 0, r.2.2.2)) (if ri.2.2.2 = 0 then (ri.1, ri.2.1, ri.2.2.1, 0) else (0, 0, 0, ri.2.2.2)) := by
      refine evNeg hL (evBind h1 (evOf ?_))
      by_cases h : ri.2.2.2 = 0
      · rw [if_pos h, if_pos h]
      · rw [if_neg h, if_neg h]
    rcases h3 with ⟨dl, sl, rfl, rfl, h4⟩ | ⟨c, h4, h5⟩
    · obtain ⟨o, ok, v1, v2, v3, _⟩ := verEq l hl hb (7 + dl + sl) h4
      rw [if_pos rfl] at keyI
      refine ⟨o, 0, evBind keyI (evPos rfl (evPos rfl (evPos h4 (evBind v1 (Ev.now _))))), evBind (evNeg hL h2) (evPos rfl (evPos rfl (evBind ?_ (Ev.now _)))), v3⟩
      have e : (7 + (dl : Int) + (sl : Int)) = ((7 + dl + sl : Nat) : Int) := by omega
      show Ev (fun k => spec_rv.vers k l (7 + (dl : Int) + (sl : Int))) o
      rw [e]; exact v2
    · refine ⟨[], c, evBind keyI ?_, evBind (evNeg hL h2) ?_, by simp⟩
      · rcases h4 with ⟨e, hc⟩ | ⟨e, hf, hc⟩
        · rw [if_neg (by rw [e]; exact hc)]; exact evNeg (by rw [e]; exact hc) (evNow (by rw [e]))
        · rw [if_pos e]; exact evPos rfl (evNeg hf (evNow (by rw [hc])))
      · rcases h5 with ⟨e, hc⟩ | ⟨e, hf, hc⟩
        · exact evNeg (by rw [e]; exact hc) (evNow (by rw [e]))
        · exact evPos e (evNeg hf (evNow (by rw [hc])))

theorem FnExactReadVersions : laws_FnExactReadVersions.Pure := by
  intro l0 _ _ hb
  refine evEnds ?_
  unfold laws_FnExactReadVersions.f
  refine evSplit (fun _ => Ev.now _) (fun c0 => ?_)
  have hl : l0.length ≤ 1048576 := by omega
  have t0 := toB l0 (by omega)
  obtain ⟨o, c, hi, hs, h8⟩ := readBoth l0 (fun x hx => wfB (hb x hx))
  obtain ⟨m0, _, _, q0⟩ := markB l0 1 (by omega) (by omega)
  obtain ⟨o', d1, d2, d3⟩ := markI o 1 (by omega) (by omega)
  have hd := heldI 1 o' (by omega) (by omega) (by rw [d1]; exact d2)
  rw [d1] at hd
  have he := eqI o (by omega)
  refine evBind t0 (evBind hs (evBind t0 (evBind hi (evBind he (evPos rfl (evSucc ?_))))))
  simp only [laws_FnExactReadVersions.j0]
  refine evNeg (by simp) (evBind t0 (evBind (eqB l0 (by omega)) (evPos rfl (evBind q0 (evNeg (by omega) (evBind he (evPos rfl (evSucc ?_))))))))
  simp only [laws_FnExactReadVersions.j1]
  refine evNeg (by simp) (evBind d3 (evBind hd (evNeg (by omega) (evPos rfl (evBind t0 (evBind hi (evBind he (evPos rfl (evSucc ?_)))))))))
  simp only [laws_FnExactReadVersions.j2]
  exact evNeg (by simp) (evBind hd (evNeg (by omega) (evPos rfl (Ev.now _))))

end Go.Proofs.Ytkomkkpjflmlnaa.Pure
