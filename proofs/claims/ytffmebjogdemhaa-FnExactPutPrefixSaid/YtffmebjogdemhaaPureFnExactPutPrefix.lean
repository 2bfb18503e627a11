/- The program's PutPrefix answers what the reference's answers, in memory of its own, for every three numbers; no condition. -/
import Derived.Test.YtffmebjogdemhaaPFnExactPutPrefixx0
import Derived.Test.YtffmebjogdemhaaPFnExactPutPrefixx1
import Derived.Test.YtffmebjogdemhaaPFnExactPutPrefixx2
import Derived.Laws.BitsLemmas
set_option linter.unusedVariables false
set_option linter.unusedSimpArgs false
set_option maxRecDepth 4000
namespace Go.Proofs.Ytffmebjogdemhaa.Pure
open Go.RowKit Go.Proofs.Ytffmebjogdemhaa.PFnExactPutPrefix Go.Proofs.YtffmebjogdemhaaW.PrintWords Go.Proofs.YtffmebjogdemhaaW.PrintLast Go.Proofs.YtffmebjogdemhaaW.PrintMore

/-! ### tools: what a printed function comes to -/
theorem evSucc {α : Type} {g : Nat → Option α} {r : α} (h : Ev (fun k => g (k + 1)) r) : Ev g r := Ev.step (fun _ => rfl) h
theorem evPos {α : Type} {c : Prop} {dc : Decidable c} {a b : Nat → Option α} {r : α} (h : c) (e : Ev a r) : Ev (fun k => if c then a k else b k) r :=
  Ev.congr (fun _ => if_pos h) e
theorem evNeg {α : Type} {c : Prop} {dc : Decidable c} {a b : Nat → Option α} {r : α} (h : ¬ c) (e : Ev b r) : Ev (fun k => if c then a k else b k) r :=
  Ev.congr (fun _ => if_neg h) e
theorem evSplit {α : Type} {c : Prop} {dc : Decidable c} {a b : Nat → Option α} {r : α} (h : c → Ev a r) (h' : ¬ c → Ev b r) : Ev (fun k => if c then a k else b k) r := by
  by_cases hc : c
  · exact evPos hc (h hc)
  · exact evNeg hc (h' hc)
theorem evBind {α β : Type} {g : Nat → Option α} {f : Nat → α → Option β} {a : α} {r : β} (h : Ev g a) (k : Ev (fun n => f n a) r) : Ev (fun n => (g n).bind (f n)) r := Ev.bind h k
theorem evPut {α β : Type} {o : Option α} {f : Nat → α → Option β} {a : α} {r : β} (h : o = some a) (k : Ev (fun n => f n a) r) : Ev (fun n => o.bind (f n)) r :=
  Ev.congr (fun _ => by rw [h]; rfl) k
theorem evNow {α : Type} {r r' : α} (h : r = r') : Ev (fun _ => some r) r' := h ▸ Ev.now r
theorem evOf {α : Type} {o : Option α} {r : α} (h : o = some r) : Ev (fun _ => o) r := ⟨0, fun _ _ => h⟩
theorem evEnds {α : Type} {g : Nat → Option α} {r : α} (h : Ev g r) : ∃ k, g k = some r := Ev.rounds h
theorem w64 {x : Int} (h : -9223372036854775808 ≤ x) (h' : x ≤ 9223372036854775807) : wrap64 x = x := by unfold wrap64; omega
theorem w64succ (i : Nat) (h : i < 4611686018427387904) : wrap64 ((i : Int) + 1) = ((i + 1 : Nat) : Int) := by unfold wrap64; omega
theorem wfI {x : Int} (h : (Lit.int .i64 x).wf = true) : -9223372036854775808 ≤ x ∧ x ≤ 9223372036854775807 := by
  simp only [Lit.wf, IntKind.min, IntKind.max, IntKind.bits, IntKind.signed, Bool.and_eq_true, decide_eq_true_eq] at h
  simpa using h
theorem wfB {x : Int} (h : (Lit.int .u8 x).wf = true) : 0 ≤ x ∧ x ≤ 255 := by
  simp only [Lit.wf, IntKind.min, IntKind.max, IntKind.bits, IntKind.signed, Bool.and_eq_true, decide_eq_true_eq] at h
  simpa using h
theorem rdN (l : List Int) (i : Nat) (h : i < l.length) : rd l (i : Int) = l[i] := by simp [rd, List.getD_eq_getElem?_getD, h]
theorem fillStep {α : Type} (l : List α) (z : α) (i d : Nat) (h : i + (d + 1) = l.length) : (l.take i ++ List.replicate (d + 1) z).set i (l[i]'(by omega)) = l.take (i + 1) ++ List.replicate d z := by
  rw [List.set_append_right _ _ (by simp; omega), List.take_succ_eq_append_getElem (show i < l.length by omega), List.append_assoc]
  congr 1
  have e : i - (l.take i).length = 0 := by simp; omega
  rw [e]
  rfl

/-! ### the laws' own helpers on bytes -/
theorem eqB_loop (l : List Int) (hl : l.length < 4611686018427387904) : ∀ (d i : Nat), i + d = l.length → Ev (fun k => laws_eqByteS.l0 k l l (i : Int)) true := by
  intro d
  induction d with
  | zero =>
    intro i h
    refine evSucc ?_
    simp only [laws_eqByteS.l0]
    exact evNeg (by omega) (Ev.now _)
  | succ d ih =>
    intro i h
    refine evSucc ?_
    simp only [laws_eqByteS.l0]
    refine evPos (by omega) (evPos (by omega) (evPos (by omega) (evPos (by first | rfl | trivial) ?_)))
    rw [w64succ i (by omega)]
    exact ih (i + 1) (by omega)
theorem eqB (l : List Int) (hl : l.length < 4611686018427387904) : Ev (fun k => laws_eqByteS.f k l l) true := by
  unfold laws_eqByteS.f
  exact evPos rfl (eqB_loop l hl l.length 0 (by omega))

theorem markB_loop (m : Int) (n : Nat) (h0 : 0 ≤ m) (hm : m + n < 4611686018427387904) : ∀ (d i : Nat) (l : List Int), i + d = n → l.length = n → (∀ j : Nat, j < i → rd l (j : Int) = (m + j) % 256) →
    ∃ l' : List Int, l'.length = n ∧ (∀ j : Nat, j < n → rd l' (j : Int) = (m + j) % 256) ∧ Ev (fun k => laws_markByteS.l0 k l (m + i) (i : Int)) (m + n, l') := by
  intro d
  induction d with
  | zero =>
    intro i l h hl hj
    refine ⟨l, hl, fun j hj' => hj j (by omega), evSucc ?_⟩
    simp only [laws_markByteS.l0]
    refine evNeg (by omega) (evNow ?_)
    have : i = n := by omega
    rw [this]
  | succ d ih =>
    intro i l h hl hj
    obtain ⟨l', hl', hj', e⟩ := ih (i + 1) (l.set i ((m + i) % 256)) (by omega) (by simpa using hl) (by
      intro j hj1
      by_cases hji : j = i
      · subst hji
        simp [rd, List.getD_eq_getElem?_getD, hl, show j < n by omega]
      · have := hj j (by omega)
        simp only [rd, List.getD_eq_getElem?_getD, Int.toNat_natCast] at this ⊢
        rw [List.getElem?_set_ne (by omega)]
        exact this)
    refine ⟨l', hl', hj', evSucc ?_⟩
    simp only [laws_markByteS.l0]
    refine evPos (by omega) (evPos (by omega) ?_)
    rw [w64succ i (by omega), w64 (by omega) (by omega), Int.toNat_natCast]
    have e2 : m + (i : Int) + 1 = m + ((i + 1 : Nat) : Int) := by omega
    rw [e2]
    exact e
theorem markB (l : List Int) (m : Int) (h0 : 0 ≤ m) (hm : m + l.length < 4611686018427387904) :
    ∃ l' : List Int, l'.length = l.length ∧ (∀ j : Nat, j < l.length → rd l' (j : Int) = (m + j) % 256) ∧ Ev (fun k => laws_markByteS.f k l m) (m + l.length, l') := by
  obtain ⟨l', h1, h2, h3⟩ := markB_loop m l.length h0 hm l.length 0 l (by omega) rfl (by omega)
  refine ⟨l', h1, h2, ?_⟩
  unfold laws_markByteS.f
  simpa using h3
theorem heldB_loop (m : Int) (l : List Int) (h0 : 0 ≤ m) (hm : m + l.length < 4611686018427387904) (hj : ∀ j : Nat, j < l.length → rd l (j : Int) = (m + j) % 256) :
    ∀ (d i : Nat), i + d = l.length → Ev (fun k => laws_heldByteS.l0 k l (m + i) (i : Int)) (m + l.length) := by
  intro d
  induction d with
  | zero =>
    intro i h
    refine evSucc ?_
    simp only [laws_heldByteS.l0]
    refine evNeg (by omega) (evNow ?_)
    have : i = l.length := by omega
    rw [this]
  | succ d ih =>
    intro i h
    refine evSucc ?_
    simp only [laws_heldByteS.l0]
    refine evPos (by omega) (evPos (by omega) (evPos (hj i (by omega)) ?_))
    rw [w64succ i (by omega), w64 (by omega) (by omega)]
    have e2 : m + (i : Int) + 1 = m + ((i + 1 : Nat) : Int) := by omega
    rw [e2]
    exact ih (i + 1) (by omega)
theorem heldB (m : Int) (l : List Int) (h0 : 0 ≤ m) (hm : m + l.length < 4611686018427387904) (hj : ∀ j : Nat, j < l.length → rd l (j : Int) = (m + j) % 256) :
    Ev (fun k => laws_heldByteS.f k l m) (m + l.length) := by
  unfold laws_heldByteS.f
  have := heldB_loop m l h0 hm hj l.length 0 (by omega)
  simpa using this

/-! ### a number in pieces of seven bits -/
def leb : Nat → Int → List Int
  | 0, v => [v % 256]
  | n + 1, v => if v ≥ 128 then (v % 128 + 128) :: leb n (v / 128) else [v % 256]
theorem pow128 (n : Nat) : (128 : Int) ^ (n + 1) = 128 ^ n * 128 := Int.pow_succ _ _
theorem pow128pos (n : Nat) : (0 : Int) < 128 ^ n := Int.pow_pos (by decide)
theorem bitsAndI (x : Int) (i : Nat) (hi : i ≤ 63) (h0 : 0 ≤ x) (h1 : x ≤ 9223372036854775807) : Go.bits .and .i64 x (2 ^ i - 1) = x % 2 ^ i :=
  bits_mask .i64 63 (by decide) (fun n h h' => by rw [IntKind.wrap_i64]; omega) i hi x h0 (by omega)
theorem bitsAndU (x : Int) (i : Nat) (hi : i ≤ 8) (h0 : 0 ≤ x) (h1 : x ≤ 255) : Go.bits .and .u8 x (2 ^ i - 1) = x % 2 ^ i :=
  bits_mask .u8 8 (by decide) (fun n h h' => by rw [IntKind.wrap_u8]; omega) i hi x h0 (by omega)
theorem bitsOrComm (k : IntKind) (x y : Int) : Go.bits .or k x y = Go.bits .or k y x := by
  simp only [Go.bits]; rw [BitVec.or_comm]
theorem bitsOrI (x y : Int) (i : Nat) (hi : i ≤ 63) (hx0 : 0 ≤ x) (hx : x % 2 ^ i = 0) (hx1 : x ≤ 9223372036854775807) (hy0 : 0 ≤ y) (hy : y < 2 ^ i) (hy1 : y ≤ 9223372036854775807) : Go.bits .or .i64 x y = x + y :=
  bits_join .i64 63 (by decide) (fun n h h' => by rw [IntKind.wrap_i64]; omega) i x y hx0 hx (by omega) hy0 hy (by omega)
theorem and127 (x : Int) (h0 : 0 ≤ x) (h1 : x ≤ 9223372036854775807) : Go.bits .and .i64 x 127 = x % 128 := bitsAndI x 7 (by decide) h0 h1
theorem or128 (x : Int) (h0 : 0 ≤ x) (h1 : x < 128) : Go.bits .or .i64 x 128 = x + 128 := by
  rw [bitsOrComm, bitsOrI 128 x 7 (by decide) (by decide) (by decide) (by decide) h0 (by omega) (by omega)]; omega
theorem shlN (x : Int) (n : Nat) (hn : n ≤ 64) : shl .i64 x (n : Int) = wrap64 (x * 2 ^ n) := by
  unfold shl
  rw [IntKind.wrap_i64, Int.toNat_natCast, Nat.min_eq_left (by simpa [IntKind.bits] using hn)]
  unfold wrap64; rfl
theorem castPow2 (n : Nat) : ((2 ^ n : Nat) : Int) = 2 ^ n := by rw [Int.natCast_pow]; rfl
theorem p128_9 : (128 : Int) ^ (8 + 1) = 9223372036854775808 := by decide
theorem pow2bound (n : Nat) (hn : n ≤ 8) : 1 ≤ 2 ^ n ∧ 2 ^ n ≤ 256 := ⟨Nat.one_le_two_pow, Nat.pow_le_pow_right (by decide) hn⟩
theorem shl1N (n : Nat) (hn : n ≤ 8) : shl .i64 1 (n : Int) = ((2 ^ n : Nat) : Int) := by
  rw [shlN 1 n (by omega), Int.one_mul, ← castPow2]
  have := pow2bound n hn
  exact w64 (by omega) (by omega)

theorem addP_loop : ∀ (n : Nat) (v : Int) (out : List Int), 0 ≤ v → v < 128 ^ (n + 1) → v ≤ 4611686018427387903 → out.length + n < 70368744177664 → Ev (fun k => impl_addPrefix.l0 k out v) (out ++ leb n v) := by
  intro n
  induction n with
  | zero =>
    intro v out h0 h1 h2 h3
    refine evSucc ?_
    simp only [impl_addPrefix.l0]
    exact evNeg (by omega) (evPos (by omega) (Ev.now _))
  | succ n ih =>
    intro v out h0 h1 h2 h3
    refine evSucc ?_
    simp only [impl_addPrefix.l0]
    have hp := pow128 (n + 1)
    have hq := pow128pos (n + 1)
    by_cases hv : v ≥ 128
    · refine evPos hv (evPos (by omega) ?_)
      rw [and127 v h0 (by omega), or128 (v % 128) (by omega) (by omega)]
      have := ih (v / 128) (out ++ [(v % 128 + 128) % 256]) (by omega) (by generalize (128 : Int) ^ (n + 1) = p at *; omega) (by omega) (by simp; omega)
      have e : (v % 128 + 128) % 256 = v % 128 + 128 := by omega
      rw [e] at this ⊢
      simpa [leb, hv, List.append_assoc] using this
    · refine evNeg hv (evPos (by omega) (evNow ?_))
      simp [leb, hv]
/-- The number in a prefix of 'n' bits, whose full value is 'm'. -/
def prefixed (m v high : Int) : List Int := if v < m then [(high + v) % 256] else (high + m) % 256 :: leb 8 (v - m)
theorem addP (out : List Int) (v : Int) (n : Nat) (high : Int) (hn : n ≤ 8) (h0 : 0 ≤ v) (h1 : v ≤ 4611686018427387903) (hh0 : 0 ≤ high) (hh1 : high ≤ 255) (hl : out.length < 35184372088832) :
    Ev (fun k => impl_addPrefix.f k out v (n : Int) high) (out ++ prefixed (((2 ^ n : Nat) : Int) - 1) v high) := by
  have hb := pow2bound n hn
  unfold impl_addPrefix.f prefixed
  rw [shl1N n hn]
  generalize ((2 ^ n : Nat)) = m at *
  rw [w64 (x := (m : Int) - 1) (by omega) (by omega)]
  refine evPos (by omega) ?_
  by_cases hv : v < (m : Int) - 1
  · refine evPos hv (evPos (by omega) (evNow ?_))
    rw [if_pos hv, w64 (by omega) (by omega)]
  · refine evNeg hv (evPos (by omega) ?_)
    rw [if_neg hv, w64 (x := high + ((m : Int) - 1)) (by omega) (by omega), w64 (x := v - ((m : Int) - 1)) (by omega) (by omega)]
    have := addP_loop 8 (v - ((m : Int) - 1)) (out ++ [(high + ((m : Int) - 1)) % 256]) (by omega) (by rw [p128_9]; omega) (by omega) (by simp; omega)
    simpa [List.append_assoc] using this
theorem leb_length : ∀ (n : Nat) (v : Int), (leb n v).length ≤ n + 1
  | 0, _ => by simp [leb]
  | n + 1, v => by
    have := leb_length n (v / 128)
    simp only [leb]
    split <;> simp <;> omega
theorem prefixed_length (m v high : Int) : (prefixed m v high).length ≤ 10 := by
  have := leb_length 8 (v - m)
  unfold prefixed
  split <;> simp <;> omega

/-- What 'PutPrefix' answers. -/
def putPrefix (v bits high : Int) : List Int × Int :=
  if 0 ≤ v ∧ v ≤ 4611686018427387903 ∧ 1 ≤ bits ∧ bits ≤ 8 ∧ 0 ≤ high ∧ high ≤ 255 ∧ high % ((2 ^ bits.toNat : Nat) : Int) = 0 then (prefixed (((2 ^ bits.toNat : Nat) : Int) - 1) v high, 0) else ([], 1)
theorem putPrefix_length (v bits high : Int) : (putPrefix v bits high).1.length ≤ 10 := by
  unfold putPrefix
  split
  · exact prefixed_length _ _ _
  · simp
theorem pp_impl (v bits high : Int) : Ev (fun k => impl_PutPrefix.f k v bits high) (putPrefix v bits high) := by
  have hin : impl_inVar.f v = some (decide (0 ≤ v ∧ v ≤ 4611686018427387903)) := by
    unfold impl_inVar.f
    by_cases h : v ≥ 0
    · rw [if_pos h]; simp [show 0 ≤ v from h]
    · rw [if_neg h]; simp [show ¬ 0 ≤ v from h]
  unfold impl_PutPrefix.f putPrefix
  refine evPut hin ?_
  refine evSplit (fun h => ?_) (fun h => evNow (by rw [if_neg]; simp at h; omega))
  have hv : 0 ≤ v ∧ v ≤ 4611686018427387903 := by simpa using h
  refine evSplit (fun h => evNow (by rw [if_neg (by omega)])) (fun h1 => ?_)
  refine evSplit (fun h => evNow (by rw [if_neg (by omega)])) (fun h2 => ?_)
  refine evSplit (fun h => evNow (by rw [if_neg (by omega)])) (fun h3 => ?_)
  refine evSplit (fun h => evNow (by rw [if_neg (by omega)])) (fun h4 => ?_)
  obtain ⟨n, rfl⟩ : ∃ n : Nat, bits = (n : Int) := ⟨bits.toNat, by omega⟩
  have hb := pow2bound n (by omega)
  rw [Int.toNat_natCast, shl1N n (by omega), Int.tmod_eq_emod_of_nonneg (by omega)]
  refine evPos (by omega) (evNeg (by omega) ?_)
  refine evSplit (fun h => ?_) (fun h => evNow (by rw [if_neg]; rintro ⟨_, _, _, _, _, _, h'⟩; exact h h'))
  refine evBind (addP [] v n high (by omega) hv.1 hv.2 (by omega) (by omega) (by simp)) (evNow ?_)
  rw [if_pos ⟨hv.1, hv.2, by omega, by omega, by omega, by omega, h⟩]
  simp
theorem pp_spec1 : ∀ (n : Nat) (v : Int) (out : List Int), 0 ≤ v → v < 128 ^ (n + 1) → v ≤ 4611686018427387903 → out.length + n < 70368744177664 → Ev (fun k => spec_PutPrefix.l1 k v out) (out ++ leb n v, 0) := by
  intro n
  induction n with
  | zero =>
    intro v out h0 h1 h2 h3
    refine evSucc ?_
    simp only [spec_PutPrefix.l1]
    exact evNeg (by omega) (evPos (by omega) (Ev.now _))
  | succ n ih =>
    intro v out h0 h1 h2 h3
    refine evSucc ?_
    simp only [spec_PutPrefix.l1]
    have hp := pow128 (n + 1)
    have hq := pow128pos (n + 1)
    by_cases hv : v ≥ 128
    · refine evPos hv (evPos (by omega) ?_)
      rw [Int.tmod_eq_emod_of_nonneg h0, Int.tdiv_eq_ediv_of_nonneg h0, w64 (x := 128 + v % 128) (by omega) (by omega), w64 (x := v / 128) (by omega) (by omega)]
      have := ih (v / 128) (out ++ [(v % 128 + 128) % 256]) (by omega) (by generalize (128 : Int) ^ (n + 1) = p at *; omega) (by omega) (by simp; omega)
      have e : (v % 128 + 128) % 256 = v % 128 + 128 := by omega
      have e' : (128 + v % 128) % 256 = v % 128 + 128 := by omega
      rw [e] at this
      rw [e']
      simpa [leb, hv, List.append_assoc] using this
    · refine evNeg hv (evPos (by omega) (evNow ?_))
      simp [leb, hv]
theorem pp_spec0 (v high : Int) (n : Nat) (hn : n ≤ 8) (hv0 : 0 ≤ v) (hv1 : v ≤ 4611686018427387903) (hh0 : 0 ≤ high) (hh1 : high ≤ 255) : ∀ (d i : Nat), i + d = n →
    Ev (fun k => spec_PutPrefix.l0 k v (n : Int) high ((2 ^ i : Nat) : Int) (i : Int)) (if high % ((2 ^ n : Nat) : Int) = 0 then (prefixed (((2 ^ n : Nat) : Int) - 1) v high, 0) else ([], 1)) := by
  intro d
  induction d with
  | zero =>
    intro i h
    obtain rfl : i = n := by omega
    have hb := pow2bound i hn
    refine evSucc ?_
    simp only [spec_PutPrefix.l0]
    generalize ((2 ^ i : Nat)) = m at *
    rw [Int.tmod_eq_emod_of_nonneg hh0]
    refine evNeg (by omega) (evNeg (by omega) ?_)
    refine evSplit (fun h => ?_) (fun h => evNow (by rw [if_neg h]))
    rw [if_pos h, w64 (x := (m : Int) - 1) (by omega) (by omega)]
    unfold prefixed
    refine evSplit (fun h => evNow ?_) (fun h => ?_)
    · rw [if_pos h, w64 (x := high + v) (by omega) (by omega)]
    · rw [if_neg h, w64 (x := high + (m : Int)) (by omega) (by omega), w64 (x := v - (m : Int)) (by omega) (by omega), w64 (x := v - (m : Int) + 1) (by omega) (by omega), w64 (x := high + (m : Int) - 1) (by omega) (by omega)]
      have := pp_spec1 8 (v - ((m : Int) - 1)) [(high + ((m : Int) - 1)) % 256] (by omega) (by rw [p128_9]; omega) (by omega) (by simp)
      have e1 : v - (m : Int) + 1 = v - ((m : Int) - 1) := by omega
      have e2 : high + (m : Int) - 1 = high + ((m : Int) - 1) := by omega
      rw [e1, e2]
      simpa using this
  | succ d ih =>
    intro i h
    have hb := pow2bound i (by omega)
    refine evSucc ?_
    simp only [spec_PutPrefix.l0]
    refine evPos (by omega) ?_
    rw [w64succ i (by omega), w64 (x := 2 * ((2 ^ i : Nat) : Int)) (by omega) (by omega)]
    have := ih (i + 1) (by omega)
    rw [Nat.pow_succ] at this
    have e : 2 * ((2 ^ i : Nat) : Int) = ((2 ^ i * 2 : Nat) : Int) := by omega
    rw [e]
    exact this
theorem pp_specJ (v bits high : Int) (h : ¬ (0 ≤ v ∧ v ≤ 4611686018427387903 ∧ 1 ≤ bits ∧ bits ≤ 8 ∧ 0 ≤ high ∧ high ≤ 255)) : Ev (fun k => spec_PutPrefix.j0 k v bits high true) (putPrefix v bits high) := by
  refine evSucc ?_
  simp only [spec_PutPrefix.j0]
  refine evPos (by first | rfl | trivial) (evNow ?_)
  unfold putPrefix
  rw [if_neg (by omega)]
theorem pp_spec (v bits high : Int) : Ev (fun k => spec_PutPrefix.f k v bits high) (putPrefix v bits high) := by
  have hin : spec_l05Var.f v = some (decide (0 ≤ v ∧ v ≤ 4611686018427387903)) := by
    unfold spec_l05Var.f
    by_cases h : v ≥ 0
    · rw [if_pos h]; simp [show 0 ≤ v from h]
    · rw [if_neg h]; simp [show ¬ 0 ≤ v from h]
  unfold spec_PutPrefix.f
  refine evPut hin ?_
  refine evSplit (fun h => ?_) (fun h => pp_specJ v bits high (by simp at h; omega))
  have hv : 0 ≤ v ∧ v ≤ 4611686018427387903 := by simpa using h
  refine evSplit (fun h => pp_specJ v bits high (by omega)) (fun h1 => ?_)
  refine evSplit (fun h => pp_specJ v bits high (by omega)) (fun h2 => ?_)
  refine evSplit (fun h => pp_specJ v bits high (by omega)) (fun h3 => ?_)
  by_cases h4 : high > 255
  · have := pp_specJ v bits high (by omega)
    simpa [h4] using this
  · refine evSucc ?_
    simp only [spec_PutPrefix.j0]
    refine evNeg (by simpa using h4) ?_
    obtain ⟨n, rfl⟩ : ∃ n : Nat, bits = (n : Int) := ⟨bits.toNat, by omega⟩
    have := pp_spec0 v high n (by omega) hv.1 hv.2 (by omega) (by omega) n 0 (by omega)
    unfold putPrefix
    rw [Int.toNat_natCast]
    by_cases hh : high % ((2 ^ n : Nat) : Int) = 0
    · rw [if_pos ⟨hv.1, hv.2, by omega, by omega, by omega, by omega, hh⟩]
      rw [if_pos hh] at this
      simpa using this
    · rw [if_neg (by rintro ⟨_, _, _, _, _, _, h'⟩; exact hh h')]
      rw [if_neg hh] at this
      simpa using this

theorem FnExactPutPrefix : laws_FnExactPutPrefix.Pure := by
  intro v bits high _ _ _
  have hl := putPrefix_length v bits high
  refine evEnds ?_
  obtain ⟨l', h1, h2, h3⟩ := markB (putPrefix v bits high).1 1 (by omega) (by omega)
  have h4 := heldB 1 l' (by omega) (by omega) (by rw [h1]; exact h2)
  unfold laws_FnExactPutPrefix.f
  refine evBind (pp_spec v bits high) (evBind (pp_impl v bits high) (evBind (eqB _ (by omega)) (evPos rfl (evSucc ?_))))
  simp only [laws_FnExactPutPrefix.j0]
  refine evNeg (by simp) (evBind h3 (evBind h4 (evNeg (by omega) (evPos (by rw [h1]) ?_))))
  refine evBind (pp_impl v bits high) (evBind (eqB _ (by omega)) (evPos rfl (evSucc ?_)))
  simp only [laws_FnExactPutPrefix.j1]
  exact evNeg (by simp) (evBind h4 (evNeg (by omega) (evPos (by rw [h1]) (Ev.now _))))

end Go.Proofs.Ytffmebjogdemhaa.Pure
