/- A drawn number comes back by the program out of its prefix, and nothing comes back out of one byte less; no condition. -/
import Derived.Test.YtffmebjogdemhaaPFnPrefixx0
import Derived.Test.YtffmebjogdemhaaPFnPrefixx1
import Derived.Test.YtffmebjogdemhaaPFnPrefixx2
import Derived.Test.YtffmebjogdemhaaPFnPrefixx3
import Derived.Test.YtffmebjogdemhaaStmtFnPrefix
import Derived.Laws.BitsLemmas
set_option linter.unusedVariables false
set_option linter.unusedSimpArgs false
set_option maxRecDepth 4000
namespace Go.Proofs.Ytffmebjogdemhaa.Pure
open Go.RowKit Go.Proofs.Ytffmebjogdemhaa.PFnPrefix Go.Proofs.YtffmebjogdemhaaW.PrintWords Go.Proofs.YtffmebjogdemhaaW.PrintLast Go.Proofs.YtffmebjogdemhaaW.PrintMore

/-! ### tools: what a printed function comes to -/
theorem evSucc {α : Type} {g : Nat → Option α} {r : α} (h : Ev (fun k => g (k + 1)) r) : Ev g r := Ev.step (fun _ => rfl) h
theorem evPos {α : Type} {c : Prop} {dc : Decidable c} {a b : Nat → Option α} {r : α} (h : c) (e : Ev a r) : Ev (fun k => if c then a k else b k) r :=
  Ev.congr (fun _ => if_pos h) e
theorem evNeg {α : Type} {c : Prop} {dc : Decidable c} {a b : Nat → Option α} {r : α} (h : ¬ c) (e : Ev b r) : Ev (fun k => if c then a k else b k) r :=
  Ev.congr (fun _ => if_neg h) e
theorem evSplit {α : Type} {c : Prop} {dc : Decidable c} {a b : Nat → Option α} {r : α} (h : c → Ev a r) (h' : ¬ c → Ev b r) : Ev (fun k => if c then a k else b k) r := by
  by_cases hc : c
  · exact evPos hc (h hc)
  · exact evNeg hc (h' hc)
theorem evBind {α β : Type} {g : Nat → Option α} {f : Nat → α → Option β} {a : α} {r : β} (h : Ev g a) (k : Ev (fun n => f n a) r) : Ev (fun n => (g n).bind (f n)) r := Ev.bind h k
theorem evPut {α β : Type} {o : Option α} {f : Nat → α → Option β} {a : α} {r : β} (h : o = some a) (k : Ev (fun n => f n a) r) : Ev (fun n => o.bind (f n)) r :=
  Ev.congr (fun _ => by rw [h]; rfl) k
theorem evNow {α : Type} {r r' : α} (h : r = r') : Ev (fun _ => some r) r' := h ▸ Ev.now r
theorem evOf {α : Type} {o : Option α} {r : α} (h : o = some r) : Ev (fun _ => o) r := ⟨0, fun _ _ => h⟩
theorem evEnds {α : Type} {g : Nat → Option α} {r : α} (h : Ev g r) : ∃ k, g k = some r := Ev.rounds h
theorem w64 {x : Int} (h : -9223372036854775808 ≤ x) (h' : x ≤ 9223372036854775807) : wrap64 x = x := by unfold wrap64; omega
theorem w64succ (i : Nat) (h : i < 4611686018427387904) : wrap64 ((i : Int) + 1) = ((i + 1 : Nat) : Int) := by unfold wrap64; omega
theorem wfI {x : Int} (h : (Lit.int .i64 x).wf = true) : -9223372036854775808 ≤ x ∧ x ≤ 9223372036854775807 := by
  simp only [Lit.wf, IntKind.min, IntKind.max, IntKind.bits, IntKind.signed, Bool.and_eq_true, decide_eq_true_eq] at h
  simpa using h
theorem wfB {x : Int} (h : (Lit.int .u8 x).wf = true) : 0 ≤ x ∧ x ≤ 255 := by
  simp only [Lit.wf, IntKind.min, IntKind.max, IntKind.bits, IntKind.signed, Bool.and_eq_true, decide_eq_true_eq] at h
  simpa using h
theorem rdN (l : List Int) (i : Nat) (h : i < l.length) : rd l (i : Int) = l[i] := by simp [rd, List.getD_eq_getElem?_getD, h]
theorem fillStep {α : Type} (l : List α) (z : α) (i d : Nat) (h : i + (d + 1) = l.length) : (l.take i ++ List.replicate (d + 1) z).set i (l[i]'(by omega)) = l.take (i + 1) ++ List.replicate d z := by
  rw [List.set_append_right _ _ (by simp; omega), List.take_succ_eq_append_getElem (show i < l.length by omega), List.append_assoc]
  congr 1
  have e : i - (l.take i).length = 0 := by simp; omega
  rw [e]
  rfl

/-! ### a number in pieces of seven bits -/
def leb : Nat → Int → List Int
  | 0, v => [v % 256]
  | n + 1, v => if v ≥ 128 then (v % 128 + 128) :: leb n (v / 128) else [v % 256]
theorem pow128 (n : Nat) : (128 : Int) ^ (n + 1) = 128 ^ n * 128 := Int.pow_succ _ _
theorem pow128pos (n : Nat) : (0 : Int) < 128 ^ n := Int.pow_pos (by decide)
theorem bitsAndI (x : Int) (i : Nat) (hi : i ≤ 63) (h0 : 0 ≤ x) (h1 : x ≤ 9223372036854775807) : Go.bits .and .i64 x (2 ^ i - 1) = x % 2 ^ i :=
  bits_mask .i64 63 (by decide) (fun n h h' => by rw [IntKind.wrap_i64]; omega) i hi x h0 (by omega)
theorem bitsAndU (x : Int) (i : Nat) (hi : i ≤ 8) (h0 : 0 ≤ x) (h1 : x ≤ 255) : Go.bits .and .u8 x (2 ^ i - 1) = x % 2 ^ i :=
  bits_mask .u8 8 (by decide) (fun n h h' => by rw [IntKind.wrap_u8]; omega) i hi x h0 (by omega)
theorem bitsOrComm (k : IntKind) (x y : Int) : Go.bits .or k x y = Go.bits .or k y x := by
  simp only [Go.bits]; rw [BitVec.or_comm]
theorem bitsOrI (x y : Int) (i : Nat) (hi : i ≤ 63) (hx0 : 0 ≤ x) (hx : x % 2 ^ i = 0) (hx1 : x ≤ 9223372036854775807) (hy0 : 0 ≤ y) (hy : y < 2 ^ i) (hy1 : y ≤ 9223372036854775807) : Go.bits .or .i64 x y = x + y :=
  bits_join .i64 63 (by decide) (fun n h h' => by rw [IntKind.wrap_i64]; omega) i x y hx0 hx (by omega) hy0 hy (by omega)
theorem and127 (x : Int) (h0 : 0 ≤ x) (h1 : x ≤ 9223372036854775807) : Go.bits .and .i64 x 127 = x % 128 := bitsAndI x 7 (by decide) h0 h1
theorem or128 (x : Int) (h0 : 0 ≤ x) (h1 : x < 128) : Go.bits .or .i64 x 128 = x + 128 := by
  rw [bitsOrComm, bitsOrI 128 x 7 (by decide) (by decide) (by decide) (by decide) h0 (by omega) (by omega)]; omega
theorem shlN (x : Int) (n : Nat) (hn : n ≤ 64) : shl .i64 x (n : Int) = wrap64 (x * 2 ^ n) := by
  unfold shl
  rw [IntKind.wrap_i64, Int.toNat_natCast, Nat.min_eq_left (by simpa [IntKind.bits] using hn)]
  unfold wrap64; rfl
theorem castPow2 (n : Nat) : ((2 ^ n : Nat) : Int) = 2 ^ n := by rw [Int.natCast_pow]; rfl
theorem p128_9 : (128 : Int) ^ (8 + 1) = 9223372036854775808 := by decide
theorem pow2bound (n : Nat) (hn : n ≤ 8) : 1 ≤ 2 ^ n ∧ 2 ^ n ≤ 256 := ⟨Nat.one_le_two_pow, Nat.pow_le_pow_right (by decide) hn⟩
theorem shl1N (n : Nat) (hn : n ≤ 8) : shl .i64 1 (n : Int) = ((2 ^ n : Nat) : Int) := by
  rw [shlN 1 n (by omega), Int.one_mul, ← castPow2]
  have := pow2bound n hn
  exact w64 (by omega) (by omega)

theorem addP_loop : ∀ (n : Nat) (v : Int) (out : List Int), 0 ≤ v → v < 128 ^ (n + 1) → v ≤ 4611686018427387903 → out.length + n < 70368744177664 → Ev (fun k => impl_addPrefix.l0 k out v) (out ++ leb n v) := by
  intro n
  induction n with
  | zero =>
    intro v out h0 h1 h2 h3
    refine evSucc ?_
    simp only [impl_addPrefix.l0]
    exact evNeg (by omega) (evPos (by omega) (Ev.now _))
  | succ n ih =>
    intro v out h0 h1 h2 h3
    refine evSucc ?_
    simp only [impl_addPrefix.l0]
    have hp := pow128 (n + 1)
    have hq := pow128pos (n + 1)
    by_cases hv : v ≥ 128
    · refine evPos hv (evPos (by omega) ?_)
      rw [and127 v h0 (by omega), or128 (v % 128) (by omega) (by omega)]
      have := ih (v / 128) (out ++ [(v % 128 + 128) % 256]) (by omega) (by generalize (128 : Int) ^ (n + 1) = p at *; omega) (by omega) (by simp; omega)
      have e : (v % 128 + 128) % 256 = v % 128 + 128 := by omega
      rw [e] at this ⊢
      simpa [leb, hv, List.append_assoc] using this
    · refine evNeg hv (evPos (by omega) (evNow ?_))
      simp [leb, hv]
/-- The number in a prefix of 'n' bits, whose full value is 'm'. -/
def prefixed (m v high : Int) : List Int := if v < m then [(high + v) % 256] else (high + m) % 256 :: leb 8 (v - m)
theorem addP (out : List Int) (v : Int) (n : Nat) (high : Int) (hn : n ≤ 8) (h0 : 0 ≤ v) (h1 : v ≤ 4611686018427387903) (hh0 : 0 ≤ high) (hh1 : high ≤ 255) (hl : out.length < 35184372088832) :
    Ev (fun k => impl_addPrefix.f k out v (n : Int) high) (out ++ prefixed (((2 ^ n : Nat) : Int) - 1) v high) := by
  have hb := pow2bound n hn
  unfold impl_addPrefix.f prefixed
  rw [shl1N n hn]
  generalize ((2 ^ n : Nat)) = m at *
  rw [w64 (x := (m : Int) - 1) (by omega) (by omega)]
  refine evPos (by omega) ?_
  by_cases hv : v < (m : Int) - 1
  · refine evPos hv (evPos (by omega) (evNow ?_))
    rw [if_pos hv, w64 (by omega) (by omega)]
  · refine evNeg hv (evPos (by omega) ?_)
    rw [if_neg hv, w64 (x := high + ((m : Int) - 1)) (by omega) (by omega), w64 (x := v - ((m : Int) - 1)) (by omega) (by omega)]
    have := addP_loop 8 (v - ((m : Int) - 1)) (out ++ [(high + ((m : Int) - 1)) % 256]) (by omega) (by rw [p128_9]; omega) (by omega) (by simp; omega)
    simpa [List.append_assoc] using this
theorem leb_length : ∀ (n : Nat) (v : Int), (leb n v).length ≤ n + 1
  | 0, _ => by simp [leb]
  | n + 1, v => by
    have := leb_length n (v / 128)
    simp only [leb]
    split <;> simp <;> omega
theorem prefixed_length (m v high : Int) : (prefixed m v high).length ≤ 10 := by
  have := leb_length 8 (v - m)
  unfold prefixed
  split <;> simp <;> omega

/-- What 'PutPrefix' answers. -/
def putPrefix (v bits high : Int) : List Int × Int :=
  if 0 ≤ v ∧ v ≤ 4611686018427387903 ∧ 1 ≤ bits ∧ bits ≤ 8 ∧ 0 ≤ high ∧ high ≤ 255 ∧ high % ((2 ^ bits.toNat : Nat) : Int) = 0 then (prefixed (((2 ^ bits.toNat : Nat) : Int) - 1) v high, 0) else ([], 1)
theorem putPrefix_length (v bits high : Int) : (putPrefix v bits high).1.length ≤ 10 := by
  unfold putPrefix
  split
  · exact prefixed_length _ _ _
  · simp
theorem pp_impl (v bits high : Int) : Ev (fun k => impl_PutPrefix.f k v bits high) (putPrefix v bits high) := by
  have hin : impl_inVar.f v = some (decide (0 ≤ v ∧ v ≤ 4611686018427387903)) := by
    unfold impl_inVar.f
    by_cases h : v ≥ 0
    · rw [if_pos h]; simp [show 0 ≤ v from h]
    · rw [if_neg h]; simp [show ¬ 0 ≤ v from h]
  unfold impl_PutPrefix.f putPrefix
  refine evPut hin ?_
  refine evSplit (fun h => ?_) (fun h => evNow (by rw [if_neg]; simp at h; omega))
  have hv : 0 ≤ v ∧ v ≤ 4611686018427387903 := by simpa using h
  refine evSplit (fun h => evNow (by rw [if_neg (by omega)])) (fun h1 => ?_)
  refine evSplit (fun h => evNow (by rw [if_neg (by omega)])) (fun h2 => ?_)
  refine evSplit (fun h => evNow (by rw [if_neg (by omega)])) (fun h3 => ?_)
  refine evSplit (fun h => evNow (by rw [if_neg (by omega)])) (fun h4 => ?_)
  obtain ⟨n, rfl⟩ : ∃ n : Nat, bits = (n : Int) := ⟨bits.toNat, by omega⟩
  have hb := pow2bound n (by omega)
  rw [Int.toNat_natCast, shl1N n (by omega), Int.tmod_eq_emod_of_nonneg (by omega)]
  refine evPos (by omega) (evNeg (by omega) ?_)
  refine evSplit (fun h => ?_) (fun h => evNow (by rw [if_neg]; rintro ⟨_, _, _, _, _, _, h'⟩; exact h h'))
  refine evBind (addP [] v n high (by omega) hv.1 hv.2 (by omega) (by omega) (by simp)) (evNow ?_)
  rw [if_pos ⟨hv.1, hv.2, by omega, by omega, by omega, by omega, h⟩]
  simp
theorem pp_spec1 : ∀ (n : Nat) (v : Int) (out : List Int), 0 ≤ v → v < 128 ^ (n + 1) → v ≤ 4611686018427387903 → out.length + n < 70368744177664 → Ev (fun k => spec_PutPrefix.l1 k v out) (out ++ leb n v, 0) := by
  intro n
  induction n with
  | zero =>
    intro v out h0 h1 h2 h3
    refine evSucc ?_
    simp only [spec_PutPrefix.l1]
    exact evNeg (by omega) (evPos (by omega) (Ev.now _))
  | succ n ih =>
    intro v out h0 h1 h2 h3
    refine evSucc ?_
    simp only [spec_PutPrefix.l1]
    have hp := pow128 (n + 1)
    have hq := pow128pos (n + 1)
    by_cases hv : v ≥ 128
    · refine evPos hv (evPos (by omega) ?_)
      rw [Int.tmod_eq_emod_of_nonneg h0, Int.tdiv_eq_ediv_of_nonneg h0, w64 (x := 128 + v % 128) (by omega) (by omega), w64 (x := v / 128) (by omega) (by omega)]
      have := ih (v / 128) (out ++ [(v % 128 + 128) % 256]) (by omega) (by generalize (128 : Int) ^ (n + 1) = p at *; omega) (by omega) (by simp; omega)
      have e : (v % 128 + 128) % 256 = v % 128 + 128 := by omega
      have e' : (128 + v % 128) % 256 = v % 128 + 128 := by omega
      rw [e] at this
      rw [e']
      simpa [leb, hv, List.append_assoc] using this
    · refine evNeg hv (evPos (by omega) (evNow ?_))
      simp [leb, hv]
theorem pp_spec0 (v high : Int) (n : Nat) (hn : n ≤ 8) (hv0 : 0 ≤ v) (hv1 : v ≤ 4611686018427387903) (hh0 : 0 ≤ high) (hh1 : high ≤ 255) : ∀ (d i : Nat), i + d = n →
    Ev (fun k => spec_PutPrefix.l0 k v (n : Int) high ((2 ^ i : Nat) : Int) (i : Int)) (if high % ((2 ^ n : Nat) : Int) = 0 then (prefixed (((2 ^ n : Nat) : Int) - 1) v high, 0) else ([], 1)) := by
  intro d
  induction d with
  | zero =>
    intro i h
    obtain rfl : i = n := by omega
    have hb := pow2bound i hn
    refine evSucc ?_
    simp only [spec_PutPrefix.l0]
    generalize ((2 ^ i : Nat)) = m at *
    rw [Int.tmod_eq_emod_of_nonneg hh0]
    refine evNeg (by omega) (evNeg (by omega) ?_)
    refine evSplit (fun h => ?_) (fun h => evNow (by rw [if_neg h]))
    rw [if_pos h, w64 (x := (m : Int) - 1) (by omega) (by omega)]
    unfold prefixed
    refine evSplit (fun h => evNow ?_) (fun h => ?_)
    · rw [if_pos h, w64 (x := high + v) (by omega) (by omega)]
    · rw [if_neg h, w64 (x := high + (m : Int)) (by omega) (by omega), w64 (x := v - (m : Int)) (by omega) (by omega), w64 (x := v - (m : Int) + 1) (by omega) (by omega), w64 (x := high + (m : Int) - 1) (by omega) (by omega)]
      have := pp_spec1 8 (v - ((m : Int) - 1)) [(high + ((m : Int) - 1)) % 256] (by omega) (by rw [p128_9]; omega) (by omega) (by simp)
      have e1 : v - (m : Int) + 1 = v - ((m : Int) - 1) := by omega
      have e2 : high + (m : Int) - 1 = high + ((m : Int) - 1) := by omega
      rw [e1, e2]
      simpa using this
  | succ d ih =>
    intro i h
    have hb := pow2bound i (by omega)
    refine evSucc ?_
    simp only [spec_PutPrefix.l0]
    refine evPos (by omega) ?_
    rw [w64succ i (by omega), w64 (x := 2 * ((2 ^ i : Nat) : Int)) (by omega) (by omega)]
    have := ih (i + 1) (by omega)
    rw [Nat.pow_succ] at this
    have e : 2 * ((2 ^ i : Nat) : Int) = ((2 ^ i * 2 : Nat) : Int) := by omega
    rw [e]
    exact this
theorem pp_specJ (v bits high : Int) (h : ¬ (0 ≤ v ∧ v ≤ 4611686018427387903 ∧ 1 ≤ bits ∧ bits ≤ 8 ∧ 0 ≤ high ∧ high ≤ 255)) : Ev (fun k => spec_PutPrefix.j0 k v bits high true) (putPrefix v bits high) := by
  refine evSucc ?_
  simp only [spec_PutPrefix.j0]
  refine evPos (by first | rfl | trivial) (evNow ?_)
  unfold putPrefix
  rw [if_neg (by omega)]
theorem pp_spec (v bits high : Int) : Ev (fun k => spec_PutPrefix.f k v bits high) (putPrefix v bits high) := by
  have hin : spec_l05Var.f v = some (decide (0 ≤ v ∧ v ≤ 4611686018427387903)) := by
    unfold spec_l05Var.f
    by_cases h : v ≥ 0
    · rw [if_pos h]; simp [show 0 ≤ v from h]
    · rw [if_neg h]; simp [show ¬ 0 ≤ v from h]
  unfold spec_PutPrefix.f
  refine evPut hin ?_
  refine evSplit (fun h => ?_) (fun h => pp_specJ v bits high (by simp at h; omega))
  have hv : 0 ≤ v ∧ v ≤ 4611686018427387903 := by simpa using h
  refine evSplit (fun h => pp_specJ v bits high (by omega)) (fun h1 => ?_)
  refine evSplit (fun h => pp_specJ v bits high (by omega)) (fun h2 => ?_)
  refine evSplit (fun h => pp_specJ v bits high (by omega)) (fun h3 => ?_)
  by_cases h4 : high > 255
  · have := pp_specJ v bits high (by omega)
    simpa [h4] using this
  · refine evSucc ?_
    simp only [spec_PutPrefix.j0]
    refine evNeg (by simpa using h4) ?_
    obtain ⟨n, rfl⟩ : ∃ n : Nat, bits = (n : Int) := ⟨bits.toNat, by omega⟩
    have := pp_spec0 v high n (by omega) hv.1 hv.2 (by omega) (by omega) n 0 (by omega)
    unfold putPrefix
    rw [Int.toNat_natCast]
    by_cases hh : high % ((2 ^ n : Nat) : Int) = 0
    · rw [if_pos ⟨hv.1, hv.2, by omega, by omega, by omega, by omega, hh⟩]
      rw [if_pos hh] at this
      simpa using this
    · rw [if_neg (by rintro ⟨_, _, _, _, _, _, h'⟩; exact hh h')]
      rw [if_neg hh] at this
      simpa using this

/-! ### a number in a prefix is read -/
theorem two7 (k : Nat) : (2 : Int) ^ (7 * k) = 128 ^ k := by
  induction k with
  | zero => rfl
  | succ k ih =>
    have : 7 * (k + 1) = 7 * k + 7 := by omega
    rw [this, Int.pow_add, ih, Int.pow_succ]; rfl
theorem shrN (x : Int) (n : Nat) (hn : n ≤ 64) : shr .i64 x (n : Int) = x / 2 ^ n := by
  unfold shr
  rw [Int.toNat_natCast, Nat.min_eq_left (by simpa [IntKind.bits] using hn)]
theorem and127u (x : Int) (h0 : 0 ≤ x) (h1 : x ≤ 255) : Go.bits .and .u8 x 127 = x % 128 := bitsAndU x 7 (by decide) h0 h1
/-- What stands behind a full prefix: round 'k' of ten. -/
def gpLoop (b : List Int) : Nat → Nat → Nat → Int → Int × Int × Int
  | 0, _, _, _ => (0, 0, 3)
  | d + 1, k, at_, v =>
    if b.length ≤ at_ then (0, 0, 2)
    else if k = 9 ∧ rd b at_ % 128 > 0 ∨ k < 9 ∧ rd b at_ % 128 > (4611686018427387903 - v) / 128 ^ k then (0, 0, 3)
    else if rd b at_ < 128 then (if k < 9 then v + rd b at_ % 128 * 128 ^ k else v, ((at_ + 1 : Nat) : Int), 0)
    else gpLoop b d (k + 1) (at_ + 1) (if k < 9 then v + rd b at_ % 128 * 128 ^ k else v)
def gpAt (b : List Int) (at_ n : Nat) : Int × Int × Int :=
  if b.length ≤ at_ then (0, 0, 2)
  else if rd b at_ % ((2 ^ n : Nat) : Int) < ((2 ^ n : Nat) : Int) - 1 then (rd b at_ % ((2 ^ n : Nat) : Int), ((at_ + 1 : Nat) : Int), 0)
  else gpLoop b 10 0 (at_ + 1) (rd b at_ % ((2 ^ n : Nat) : Int))
theorem rdB {b : List Int} (hb : ∀ x ∈ b, 0 ≤ x ∧ x ≤ 255) (i : Nat) : 0 ≤ rd b (i : Int) ∧ rd b (i : Int) ≤ 255 := by
  by_cases h : i < b.length
  · rw [rdN b i h]; exact hb _ (List.getElem_mem h)
  · simp [rd, List.getD_eq_getElem?_getD, List.getElem?_eq_none (Nat.le_of_not_lt h)]
theorem partFits {p u v : Int} (hu : 0 < u) (h : ¬ p > (4611686018427387903 - v) / u) : p * u ≤ 4611686018427387903 - v :=
  (Int.le_ediv_iff_mul_le hu).mp (by omega)
theorem pow128le (k : Nat) (h : k ≤ 7) : (128 : Int) ^ k ≤ 562949953421312 := by
  have h1 : (128 : Nat) ^ k ≤ 128 ^ 7 := Nat.pow_le_pow_right (by decide) h
  have e : (128 : Nat) ^ 7 = 562949953421312 := by decide
  rw [e] at h1
  have h2 := Int.ofNat_le.2 h1
  rw [Int.natCast_pow] at h2
  exact h2
theorem emodLe (x : Int) (m : Nat) (hm : 1 ≤ m) (h : 0 ≤ x) : x % (m : Int) ≤ x := by
  have h1 := Int.mul_ediv_add_emod x m
  have h2 : 0 ≤ (m : Int) * (x / m) := Int.mul_nonneg (by omega) (Int.ediv_nonneg h (by omega))
  omega
def getPrefix (b : List Int) (at_ bits : Int) : Int × Int × Int :=
  if b.length > 65536 then (0, 0, 4)
  else if bits < 1 ∨ bits > 8 ∨ at_ < 0 ∨ at_ > b.length then (0, 0, 1)
  else gpAt b at_.toNat bits.toNat

theorem gp_impl1 (b : List Int) (hb : ∀ x ∈ b, 0 ≤ x ∧ x ≤ 255) (hl : b.length < 4611686018427387904) : ∀ (d k at_ : Nat) (v : Int), k + d = 10 → at_ ≤ b.length → 0 ≤ v → v ≤ 4611686018427387903 →
    Ev (fun f => impl_GetPrefix.l0 f b (at_ : Int) v (k : Int)) (gpLoop b d k at_ v) := by
  intro d
  induction d with
  | zero =>
    intro k at_ v hk hat h0 h1
    refine evSucc ?_
    simp only [impl_GetPrefix.l0]
    exact evNeg (by omega) (Ev.now _)
  | succ d ih =>
    intro k at_ v hk hat h0 h1
    refine evSucc ?_
    simp only [impl_GetPrefix.l0]
    refine evPos (by omega) ?_
    unfold gpLoop
    refine evSplit (fun h => evNow (by rw [if_pos (by omega)])) (fun h => ?_)
    rw [if_neg (by omega)]
    have hr := rdB hb at_
    have hup := pow128pos k
    have w1 := w64succ at_ (by omega)
    have w7 : wrap64 (7 * (k : Int)) = ((7 * k : Nat) : Int) := by rw [w64 (by omega) (by omega)]; omega
    have hdiv : (4611686018427387903 - v) / 128 ^ k ≤ 4611686018427387903 - v := Int.ediv_le_self _ (by omega)
    rw [and127u _ hr.1 hr.2, w64 (x := rd b (at_ : Int) % 128) (by omega) (by omega), w7, w64 (x := 4611686018427387903 - v) (by omega) (by omega)]
    refine evPos (by omega) (evPos (by omega) ?_)
    have bad : Ev (fun f => impl_GetPrefix.j2 f b (at_ : Int) v (k : Int) (rd b (at_ : Int) % 128) true) (0, 0, 3) := by
      refine evSucc ?_
      simp only [impl_GetPrefix.j2]
      exact evPos (by first | rfl | trivial) (Ev.now _)
    have e1 : wrap64 (((at_ + 1 : Nat) : Int) - 1) = (at_ : Int) := by rw [w64 (by omega) (by omega)]; omega
    have small : k < 9 → ¬ rd b (at_ : Int) % 128 > (4611686018427387903 - v) / 128 ^ k → Ev (fun f => impl_GetPrefix.j2 f b (at_ : Int) v (k : Int) (rd b (at_ : Int) % 128) false)
        (if rd b (at_ : Int) < 128 then (if k < 9 then v + rd b at_ % 128 * 128 ^ k else v, ((at_ + 1 : Nat) : Int), 0) else gpLoop b d (k + 1) (at_ + 1) (if k < 9 then v + rd b at_ % 128 * 128 ^ k else v)) := by
      intro hk8 hp
      have hf := partFits hup hp
      have hf0 : 0 ≤ rd b (at_ : Int) % 128 * 128 ^ k := Int.mul_nonneg (by omega) (by omega)
      refine evSucc ?_
      simp only [impl_GetPrefix.j2]
      rw [w7, w1, e1, shlN _ (7 * k) (by omega), two7, w64 (x := rd b (at_ : Int) % 128 * 128 ^ k) (by omega) (by omega), w64 (x := v + rd b (at_ : Int) % 128 * 128 ^ k) (by omega) (by omega), w64succ k (by omega), if_pos hk8]
      refine evNeg (by simp) (evPos (by omega) (evPos (by omega) (evPos (by omega) (evPos (by omega) ?_))))
      refine evSplit (fun hx => evNow (by rw [if_pos hx])) (fun hx => ?_)
      rw [if_neg hx]
      exact ih (k + 1) (at_ + 1) _ (by omega) (by omega) (by omega) (by omega)
    have nine : k = 9 → Ev (fun f => impl_GetPrefix.j2 f b (at_ : Int) v (k : Int) (rd b (at_ : Int) % 128) false)
        (if rd b (at_ : Int) < 128 then (if k < 9 then v + rd b at_ % 128 * 128 ^ k else v, ((at_ + 1 : Nat) : Int), 0) else gpLoop b d (k + 1) (at_ + 1) (if k < 9 then v + rd b at_ % 128 * 128 ^ k else v)) := by
      intro hk9
      refine evSucc ?_
      simp only [impl_GetPrefix.j2]
      rw [w1, e1, w64succ k (by omega), if_neg (show ¬ (k < 9) by omega)]
      refine evNeg (by simp) (evNeg (by omega) (evPos (by omega) (evPos (by omega) ?_)))
      refine evSplit (fun hx => evNow (by rw [if_pos hx])) (fun hx => ?_)
      rw [if_neg hx]
      exact ih (k + 1) (at_ + 1) _ (by omega) (by omega) (by omega) (by omega)
    have sh : shr .i64 (4611686018427387903 - v) ((7 * k : Nat) : Int) = (4611686018427387903 - v) / 128 ^ k ∨ ¬ k < 9 := by
      by_cases hk9 : k < 9
      · left; rw [shrN _ _ (by omega), two7]
      · right; exact hk9
    refine evSplit (fun h9 => ?_) (fun h9 => ?_)
    · have h9' : k = 9 := by omega
      refine evSplit (fun hp => ?_) (fun hp => ?_)
      · refine evNeg (by omega) ?_
        have := nine h9'
        rwa [if_neg (by omega)]
      · rw [if_pos (by omega)]; exact bad
    · have hk8 : k < 9 := by omega
      refine evPos (by omega) (evPos (by omega) ?_)
      rcases sh with sh | sh
      · rw [sh]
        by_cases hp : rd b (at_ : Int) % 128 > (4611686018427387903 - v) / 128 ^ k
        · rw [if_pos (by omega), decide_eq_true hp]; exact bad
        · rw [if_neg (by omega), decide_eq_false hp]
          exact small hk8 hp
      · exact absurd hk8 sh
theorem andMask (x : Int) (n : Nat) (hn : n ≤ 8) (h0 : 0 ≤ x) (h1 : x ≤ 255) : Go.bits .and .i64 x (((2 ^ n : Nat) : Int) - 1) = x % ((2 ^ n : Nat) : Int) := by
  have := bitsAndI x n (by omega) h0 (by omega)
  rw [← castPow2] at this
  exact this
theorem gp_implAt (b : List Int) (hb : ∀ x ∈ b, 0 ≤ x ∧ x ≤ 255) (hl : b.length < 4611686018427387904) (n at_ : Nat) (hn : n ≤ 8) (hat : at_ ≤ b.length) :
    Ev (fun f => impl_GetPrefix.j0 f b (at_ : Int) (n : Int) false) (gpAt b at_ n) := by
  refine evSucc ?_
  simp only [impl_GetPrefix.j0]
  have hp := pow2bound n hn
  have hr := rdB hb at_
  have ha := andMask _ n hn hr.1 hr.2
  unfold gpAt
  rw [shl1N n hn]
  generalize (2 ^ n : Nat) = m at *
  rw [w64 (x := rd b (at_ : Int)) (by omega) (by omega), w64 (x := (m : Int) - 1) (by omega) (by omega), ha, w64succ at_ (by omega)]
  refine evNeg (by simp) ?_
  refine evSplit (fun h => evNow (by rw [if_pos (by omega)])) (fun h => ?_)
  rw [if_neg (by omega)]
  have hm0 : 0 ≤ rd b (at_ : Int) % (m : Int) := Int.emod_nonneg _ (by omega)
  have hm1 : rd b (at_ : Int) % (m : Int) ≤ rd b (at_ : Int) := emodLe _ m (by omega) hr.1
  refine evPos (by omega) (evPos (by omega) (evPos (by omega) ?_))
  refine evSplit (fun h => evNow (by rw [if_pos h])) (fun h => ?_)
  rw [if_neg h]
  exact gp_impl1 b hb hl 10 0 (at_ + 1) _ (by omega) (by omega) hm0 (by omega)
theorem gp_impl (b : List Int) (hb : ∀ x ∈ b, 0 ≤ x ∧ x ≤ 255) (at_ bits : Int) : Ev (fun f => impl_GetPrefix.f f b at_ bits) (getPrefix b at_ bits) := by
  have bad : ∀ x, (x = true) → Ev (fun f => impl_GetPrefix.j0 f b at_ bits x) (0, 0, 1) := by
    intro x hx
    refine evSucc ?_
    simp only [impl_GetPrefix.j0]
    exact evPos hx (Ev.now _)
  unfold impl_GetPrefix.f impl_tooLong.f getPrefix
  refine evPut rfl ?_
  refine evSplit (fun h => evNow (by simp at h; rw [if_pos (by omega)])) (fun h => ?_)
  simp at h
  rw [if_neg (by omega)]
  refine evSplit (fun h => ?_) (fun h1 => ?_)
  · rw [if_pos (by omega)]; exact bad _ rfl
  refine evSplit (fun h => ?_) (fun h2 => ?_)
  · rw [if_pos (by omega)]; exact bad _ rfl
  refine evSplit (fun h => ?_) (fun h3 => ?_)
  · rw [if_pos (by omega)]; exact bad _ rfl
  by_cases h4 : at_ > (b.length : Int)
  · rw [if_pos (by omega)]; exact bad _ (by simpa using h4)
  · rw [if_neg (by omega), decide_eq_false h4]
    obtain ⟨i, rfl⟩ : ∃ i : Nat, at_ = (i : Int) := ⟨at_.toNat, by omega⟩
    obtain ⟨n, rfl⟩ : ∃ n : Nat, bits = (n : Int) := ⟨bits.toNat, by omega⟩
    simp only [Int.toNat_natCast]
    exact gp_implAt b hb (by omega) n i (by omega) (by omega)

/-! ### the source of drawn choices -/
/-- A state of the source from which at least 'b' bytes more may be drawn. -/
structure Src (code : List Int) (b at_ seed : Int) : Prop where
  len : code.length ≤ 1048576
  byte : ∀ x ∈ code, 0 ≤ x ∧ x ≤ 255
  lo : 0 ≤ at_
  hi : at_ + b ≤ 100000000000
  s0 : 0 ≤ seed
  s1 : seed < 2147483648
theorem Src.less {code : List Int} {b b' at_ seed : Int} (h : Src code b at_ seed) (hb : b' ≤ b) : Src code b' at_ seed := ⟨h.len, h.byte, h.lo, by have := h.hi; omega, h.s0, h.s1⟩
theorem rdBy {b : List Int} (hb : ∀ x ∈ b, 0 ≤ x ∧ x ≤ 255) (i : Int) : 0 ≤ rd b i ∧ rd b i ≤ 255 := by
  unfold rd
  by_cases h : i.toNat < b.length
  · rw [List.getD_eq_getElem?_getD, List.getElem?_eq_getElem h]; exact hb _ (List.getElem_mem h)
  · simp [List.getD_eq_getElem?_getD, List.getElem?_eq_none (Nat.le_of_not_lt h)]
theorem src_byte {code : List Int} {b at_ seed : Int} (hb : 0 ≤ b) (h : Src code (b + 1) at_ seed) : ∃ r s', spec_l01Src_byte.f code at_ seed = some (r, at_ + 1, s') ∧ 0 ≤ r ∧ r ≤ 255 ∧ Src code b (at_ + 1) s' := by
  obtain ⟨h1, h2, h3, h4, h5, h6⟩ := h
  have hr := rdBy h2 at_
  unfold spec_l01Src_byte.f
  rw [if_pos ⟨h3, by omega, h5, h6, by omega⟩]
  by_cases c1 : at_ < (code.length : Int)
  · rw [if_pos c1, if_pos hr]
    exact ⟨_, _, rfl, hr.1, hr.2, h1, h2, by omega, by omega, by omega, by omega⟩
  · rw [if_neg c1]
    by_cases c2 : 4000 + 4 * (code.length : Int) < at_ + 1
    · rw [if_pos c2]
      exact ⟨_, _, rfl, by omega, by omega, h1, h2, by omega, by omega, by omega, by omega⟩
    · rw [if_neg c2]
      exact ⟨_, _, rfl, by omega, by omega, h1, h2, by omega, by omega, by omega, by omega⟩
theorem src_next {code : List Int} {b at_ seed : Int} (n : Int) (hn : n ≤ 2147483648) (hb : 0 ≤ b) (h : Src code (b + 3) at_ seed) :
    ∃ r a' s', spec_l01Src_next.f code at_ seed n = some (r, a', s') ∧ 0 ≤ r ∧ (1 ≤ n → r < n) ∧ (n ≤ 1 → r = 0) ∧ Src code b a' s' := by
  unfold spec_l01Src_next.f
  by_cases c1 : n ≤ 1
  · rw [if_pos c1]
    exact ⟨0, at_, seed, rfl, by omega, by omega, fun _ => rfl, h.less (by omega)⟩
  rw [if_neg c1]
  by_cases c2 : n ≤ 256
  · rw [if_pos c2]
    obtain ⟨r, s', e, h0, h1, h'⟩ := src_byte (b := b + 2) (by omega) (h.less (by omega))
    rw [e]
    simp only [Option.bind_some]
    rw [if_neg (by omega), Int.tmod_eq_emod_of_nonneg h0]
    exact ⟨_, _, _, rfl, Int.emod_nonneg _ (by omega), fun _ => Int.emod_lt_of_pos _ (by omega), by omega, h'.less (by omega)⟩
  · rw [if_neg c2]
    obtain ⟨r1, s1, e1, g0, g1, h1⟩ := src_byte (b := b + 2) (by omega) (h.less (by omega))
    rw [e1]
    simp only [Option.bind_some]
    obtain ⟨r2, s2, e2, g2, g3, h2⟩ := src_byte (b := b + 1) (by omega) (h1.less (by omega))
    rw [e2]
    simp only [Option.bind_some]
    obtain ⟨r3, s3, e3, g4, g5, h3⟩ := src_byte (b := b) hb h2
    rw [e3]
    simp only [Option.bind_some]
    rw [if_neg (by omega), w64 (x := r1 * 65536) (by omega) (by omega), w64 (x := r2 * 256) (by omega) (by omega), w64 (x := r1 * 65536 + r2 * 256) (by omega) (by omega), w64 (x := r1 * 65536 + r2 * 256 + r3) (by omega) (by omega), Int.tmod_eq_emod_of_nonneg (by omega)]
    exact ⟨_, _, _, rfl, Int.emod_nonneg _ (by omega), fun _ => Int.emod_lt_of_pos _ (by omega), by omega, h3⟩
theorem src_chance {code : List Int} {b at_ seed : Int} (n : Int) (hn : n ≤ 2147483648) (hb : 0 ≤ b) (h : Src code (b + 3) at_ seed) :
    ∃ r a' s', spec_l01Src_chance.f code at_ seed n = some (r, a', s') ∧ Src code b a' s' := by
  unfold spec_l01Src_chance.f
  obtain ⟨r, a', s', e, _, _, _, h'⟩ := src_next n hn hb h
  rw [e]
  exact ⟨_, _, _, rfl, h'⟩
theorem src_start (code : List Int) (h1 : code.length ≤ 1048576) (h2 : ∀ x ∈ code, 0 ≤ x ∧ x ≤ 255) : Src code 99999999999 0 ((code.length : Int) % 1000) := ⟨h1, h2, by omega, by omega, by omega, by omega⟩

theorem src_number {code : List Int} {b at_ seed : Int} (hb : 0 ≤ b) (h : Src code (b + 9) at_ seed) :
    ∃ r a' s', Ev (fun k => spec_l01Src_number.f k code at_ seed) (r, a', s') ∧ -9223372036854775808 ≤ r ∧ r ≤ 9223372036854775807 ∧ Src code b a' s' := by
  obtain ⟨r1, a1, s1, e1, p1, q1, _, h1⟩ := src_next (b := b + 6) 12 (by omega) (by omega) (h.less (by omega))
  have q1 := q1 (by omega)
  unfold spec_l01Src_number.f
  by_cases c0 : r1 = 0
  · obtain ⟨r2, a2, s2, e2, p2, q2, _, h2⟩ := src_next (b := b + 3) 9 (by omega) (by omega) (h1.less (by omega))
    have q2 := q2 (by omega)
    refine ⟨rd [0, 63, 64, 16383, 16384, 1073741823, 1073741824, 4611686018427387903, 4611686018427387902] r2, a2, s2, evPut e1 (evPos c0 (evPut rfl (evPut e2 (evPos p2 (evPos (by simpa using q2) (evNow rfl)))))), ?_, ?_, h2.less (by omega)⟩
    · rcases (by omega : r2 = 0 ∨ r2 = 1 ∨ r2 = 2 ∨ r2 = 3 ∨ r2 = 4 ∨ r2 = 5 ∨ r2 = 6 ∨ r2 = 7 ∨ r2 = 8) with rfl | rfl | rfl | rfl | rfl | rfl | rfl | rfl | rfl <;> simp [rd]
    · rcases (by omega : r2 = 0 ∨ r2 = 1 ∨ r2 = 2 ∨ r2 = 3 ∨ r2 = 4 ∨ r2 = 5 ∨ r2 = 6 ∨ r2 = 7 ∨ r2 = 8) with rfl | rfl | rfl | rfl | rfl | rfl | rfl | rfl | rfl <;> simp [rd]
  by_cases c1 : r1 = 1
  · obtain ⟨r2, a2, s2, e2, p2, q2, _, h2⟩ := src_next (b := b + 3) 16777216 (by omega) (by omega) (h1.less (by omega))
    have q2 := q2 (by omega)
    obtain ⟨r3, a3, s3, e3, p3, q3, _, h3⟩ := src_next (b := b) 65536 (by omega) (by omega) (h2.less (by omega))
    have q3 := q3 (by omega)
    refine ⟨r2 * 65536 + r3, a3, s3, evPut e1 (evNeg c0 (evPos c1 (evPut e2 (evPut e3 (evNow ?_))))), by omega, by omega, h3⟩
    rw [w64 (x := r2 * 65536) (by omega) (by omega), w64 (by omega) (by omega)]
  by_cases c2 : r1 = 2
  · obtain ⟨r2, a2, s2, e2, p2, q2, _, h2⟩ := src_next (b := b + 3) 4 (by omega) (by omega) (h1.less (by omega))
    have q2 := q2 (by omega)
    refine ⟨rd [(-1), 4611686018427387904, 9223372036854775807, (-9223372036854775808)] r2, a2, s2, evPut e1 (evNeg c0 (evNeg c1 (evPos c2 (evPut rfl (evPut e2 (evPos p2 (evPos (by simpa using q2) (evNow rfl)))))))), ?_, ?_, h2.less (by omega)⟩
    · rcases (by omega : r2 = 0 ∨ r2 = 1 ∨ r2 = 2 ∨ r2 = 3) with rfl | rfl | rfl | rfl <;> simp [rd]
    · rcases (by omega : r2 = 0 ∨ r2 = 1 ∨ r2 = 2 ∨ r2 = 3) with rfl | rfl | rfl | rfl <;> simp [rd]
  have tail : ∀ x : Bool, ∃ r a' s', Ev (fun k => spec_l01Src_number.j0 k x code a1 s1) (r, a', s') ∧ -9223372036854775808 ≤ r ∧ r ≤ 9223372036854775807 ∧ Src code b a' s' := by
    intro x
    obtain ⟨r2, a2, s2, e2, p2, q2, _, h2⟩ := src_next (b := b) 20000 (by omega) (by omega) (h1.less (by omega))
    have q2 := q2 (by omega)
    obtain ⟨r3, a3, s3, e3, p3, q3, _, h3⟩ := src_next (b := b) 100 (by omega) (by omega) (h1.less (by omega))
    have q3 := q3 (by omega)
    cases x with
    | true =>
      refine ⟨r2, a2, s2, evSucc ?_, by omega, by omega, h2⟩
      simp only [spec_l01Src_number.j0]
      exact evPos (by first | rfl | trivial) (evPut e2 (evNow rfl))
    | false =>
      refine ⟨r3, a3, s3, evSucc ?_, by omega, by omega, h3⟩
      simp only [spec_l01Src_number.j0]
      exact evNeg (by simp) (evPut e3 (evNow rfl))
  by_cases c3 : r1 = 3
  · obtain ⟨r, a', s', e, hh⟩ := tail (r1 == 3)
    exact ⟨r, a', s', evPut e1 (evNeg c0 (evNeg c1 (evNeg c2 (evPos c3 e)))), hh⟩
  · obtain ⟨r, a', s', e, hh⟩ := tail (r1 == 4)
    exact ⟨r, a', s', evPut e1 (evNeg c0 (evNeg c1 (evNeg c2 (evNeg c3 e)))), hh⟩

/-! ### what was put comes back -/
theorem splitMul (u P : Int) : u % 128 * P + u / 128 * (P * 128) = u * P := by
  have h := Int.mul_ediv_add_emod u 128
  calc u % 128 * P + u / 128 * (P * 128) = (128 * (u / 128) + u % 128) * P := by
        rw [Int.add_mul, Int.mul_comm P 128, ← Int.mul_assoc, Int.mul_comm (u / 128) 128, Int.add_comm]
    _ = u * P := by rw [h]
theorem rdDrop (b : List Int) (i : Nat) (x : Int) (l : List Int) (h : b.drop i = x :: l) : i < b.length ∧ rd b (i : Int) = x ∧ b.drop (i + 1) = l := by
  have hi : i < b.length := by
    have : (b.drop i).length = l.length + 1 := by rw [h]; rfl
    rw [List.length_drop] at this
    omega
  rw [List.drop_eq_getElem_cons hi] at h
  injection h with h1 h2
  exact ⟨hi, by rw [rdN b i hi]; exact h1, h2⟩
theorem gp_leb (b : List Int) : ∀ (d k f at_ : Nat) (u v : Int), b.drop at_ = leb d u → 0 ≤ u → u < 128 ^ (d + 1) → k + d ≤ 8 → d + 1 ≤ f → 0 ≤ v → v + u * 128 ^ k ≤ 4611686018427387903 →
    gpLoop b f k at_ v = (v + u * 128 ^ k, ((at_ + (leb d u).length : Nat) : Int), 0) := by
  intro d
  induction d with
  | zero =>
    intro k f at_ u v hd h0 h1 hk hf hv hm
    obtain ⟨f, rfl⟩ : ∃ m, f = m + 1 := ⟨f - 1, by omega⟩
    have h1' : u < 128 := by simpa using h1
    obtain ⟨hi, hr, _⟩ := rdDrop b at_ _ _ hd
    have hup := pow128pos k
    have hp : ¬ u > (4611686018427387903 - v) / 128 ^ k := by
      have := (Int.le_ediv_iff_mul_le (c := 128 ^ k) (a := u) (b := 4611686018427387903 - v) hup).mpr (by omega)
      omega
    have e : u % 256 = u := by omega
    have e2 : u % 256 % 128 = u := by omega
    unfold gpLoop
    rw [if_neg (by omega), hr, e2, if_neg (by omega), if_pos (by omega), if_pos (by omega)]
    rfl
  | succ d ih =>
    intro k f at_ u v hd h0 h1 hk hf hv hm
    obtain ⟨f, rfl⟩ : ∃ m, f = m + 1 := ⟨f - 1, by omega⟩
    have hup := pow128pos k
    have hup1 := pow128 k
    have hpd := pow128 (d + 1)
    have hqd := pow128pos (d + 1)
    have hs := splitMul u (128 ^ k)
    have hq0 : 0 ≤ u / 128 * (128 ^ k * 128) := Int.mul_nonneg (by omega) (by omega)
    have hr0 : 0 ≤ u % 128 * 128 ^ k := Int.mul_nonneg (by omega) (by omega)
    by_cases c : u ≥ 128
    · simp only [leb, if_pos c] at hd
      obtain ⟨hi, hr, hn⟩ := rdDrop b at_ _ _ hd
      have e2 : (u % 128 + 128) % 128 = u % 128 := by omega
      have hp : ¬ u % 128 > (4611686018427387903 - v) / 128 ^ k := by
        have := (Int.le_ediv_iff_mul_le (c := 128 ^ k) (a := u % 128) (b := 4611686018427387903 - v) hup).mpr (by omega)
        omega
      have := ih (k + 1) f (at_ + 1) (u / 128) (v + u % 128 * 128 ^ k) hn (by omega) (by generalize (128 : Int) ^ (d + 1) = p at *; omega) (by omega) (by omega) (by omega) (by rw [hup1]; omega)
      unfold gpLoop
      rw [if_neg (by omega), hr, e2, if_neg (by omega), if_neg (by omega), if_pos (by omega), this, hup1]
      simp only [leb, if_pos c, List.length_cons, Prod.mk.injEq, and_true]
      exact ⟨by omega, by omega⟩
    · simp only [leb, if_neg c] at hd
      obtain ⟨hi, hr, _⟩ := rdDrop b at_ _ _ hd
      have hp : ¬ u > (4611686018427387903 - v) / 128 ^ k := by
        have := (Int.le_ediv_iff_mul_le (c := 128 ^ k) (a := u) (b := 4611686018427387903 - v) hup).mpr (by omega)
        omega
      have e : u % 256 = u := by omega
      have e2 : u % 256 % 128 = u := by omega
      unfold gpLoop
      rw [if_neg (by omega), hr, e2, if_neg (by omega), if_pos (by omega), if_pos (by omega)]
      simp only [leb, if_neg c]
      rfl
theorem leb_ne (d : Nat) (u : Int) : leb d u ≠ [] := by
  cases d with
  | zero => simp [leb]
  | succ d => simp only [leb]; split <;> simp
theorem gp_short (b : List Int) : ∀ (d k f at_ : Nat) (u v : Int), b.drop at_ = (leb d u).dropLast → 0 ≤ u → u < 128 ^ (d + 1) → k + d ≤ 8 → d + 1 ≤ f → 0 ≤ v → v + u * 128 ^ k ≤ 4611686018427387903 →
    gpLoop b f k at_ v = (0, 0, 2) := by
  intro d
  induction d with
  | zero =>
    intro k f at_ u v hd h0 h1 hk hf hv hm
    obtain ⟨f, rfl⟩ : ∃ m, f = m + 1 := ⟨f - 1, by omega⟩
    have hl : b.length ≤ at_ := by
      have : (b.drop at_).length = 0 := by rw [hd]; rfl
      rw [List.length_drop] at this
      omega
    unfold gpLoop
    rw [if_pos hl]
  | succ d ih =>
    intro k f at_ u v hd h0 h1 hk hf hv hm
    obtain ⟨f, rfl⟩ : ∃ m, f = m + 1 := ⟨f - 1, by omega⟩
    have hup := pow128pos k
    have hup1 := pow128 k
    have hpd := pow128 (d + 1)
    have hqd := pow128pos (d + 1)
    have hs := splitMul u (128 ^ k)
    have hq0 : 0 ≤ u / 128 * (128 ^ k * 128) := Int.mul_nonneg (by omega) (by omega)
    have hr0 : 0 ≤ u % 128 * 128 ^ k := Int.mul_nonneg (by omega) (by omega)
    by_cases c : u ≥ 128
    · simp only [leb, if_pos c] at hd
      rw [List.dropLast_cons_of_ne_nil (leb_ne d _)] at hd
      obtain ⟨hi, hr, hn⟩ := rdDrop b at_ _ _ hd
      have e2 : (u % 128 + 128) % 128 = u % 128 := by omega
      have hp : ¬ u % 128 > (4611686018427387903 - v) / 128 ^ k := by
        have := (Int.le_ediv_iff_mul_le (c := 128 ^ k) (a := u % 128) (b := 4611686018427387903 - v) hup).mpr (by omega)
        omega
      have := ih (k + 1) f (at_ + 1) (u / 128) (v + u % 128 * 128 ^ k) hn (by omega) (by generalize (128 : Int) ^ (d + 1) = p at *; omega) (by omega) (by omega) (by omega) (by rw [hup1]; omega)
      unfold gpLoop
      rw [if_neg (by omega), hr, e2, if_neg (by omega), if_neg (by omega), if_pos (by omega), this]
    · simp only [leb, if_neg c] at hd
      have hl : b.length ≤ at_ := by
        have : (b.drop at_).length = 0 := by rw [hd]; rfl
        rw [List.length_drop] at this
        omega
      unfold gpLoop
      rw [if_pos hl]
theorem highFits (n : Nat) (hn : n ≤ 8) (high : Int) (h0 : 0 ≤ high) (h1 : high ≤ 255) (h : high % ((2 ^ n : Nat) : Int) = 0) : high + ((2 ^ n : Nat) : Int) ≤ 256 := by
  rcases (by omega : n = 0 ∨ n = 1 ∨ n = 2 ∨ n = 3 ∨ n = 4 ∨ n = 5 ∨ n = 6 ∨ n = 7 ∨ n = 8) with rfl | rfl | rfl | rfl | rfl | rfl | rfl | rfl | rfl <;> simp at h ⊢ <;> omega
theorem modHigh (n : Nat) (high v : Int) (h : high % ((2 ^ n : Nat) : Int) = 0) (h0 : 0 ≤ v) (h1 : v < ((2 ^ n : Nat) : Int)) : (high + v) % ((2 ^ n : Nat) : Int) = v := by
  rw [Int.add_emod, h, Int.zero_add, Int.emod_emod, Int.emod_eq_of_lt h0 h1]
theorem back (n : Nat) (hn1 : 1 ≤ n) (hn : n ≤ 8) (v high : Int) (hv0 : 0 ≤ v) (hv1 : v ≤ 4611686018427387903) (h0 : 0 ≤ high) (h1 : high ≤ 255) (h : high % ((2 ^ n : Nat) : Int) = 0) :
    gpAt ([1, 255] ++ prefixed (((2 ^ n : Nat) : Int) - 1) v high) 2 n = (v, ((2 + (prefixed (((2 ^ n : Nat) : Int) - 1) v high).length : Nat) : Int), 0) := by
  have hb := pow2bound n hn
  have hf := highFits n hn high h0 h1 h
  have hd : ([1, 255] ++ prefixed (((2 ^ n : Nat) : Int) - 1) v high).drop 2 = prefixed (((2 ^ n : Nat) : Int) - 1) v high := rfl
  generalize hbl : [1, 255] ++ prefixed (((2 ^ n : Nat) : Int) - 1) v high = b at *
  by_cases c : v < ((2 ^ n : Nat) : Int) - 1
  · have hm := modHigh n high v h hv0 (by omega)
    unfold prefixed at hd ⊢
    rw [if_pos c] at hd ⊢
    obtain ⟨hi, hr, _⟩ := rdDrop b 2 _ _ hd
    have e : (high + v) % 256 = high + v := by omega
    unfold gpAt
    rw [if_neg (by omega), hr, e, hm, if_pos c]
    rfl
  · have hm := modHigh n high (((2 ^ n : Nat) : Int) - 1) h (by omega) (by omega)
    unfold prefixed at hd ⊢
    rw [if_neg c] at hd ⊢
    obtain ⟨hi, hr, hn2⟩ := rdDrop b 2 _ _ hd
    have e : (high + (((2 ^ n : Nat) : Int) - 1)) % 256 = high + (((2 ^ n : Nat) : Int) - 1) := by omega
    have := gp_leb b 8 0 10 3 (v - (((2 ^ n : Nat) : Int) - 1)) (((2 ^ n : Nat) : Int) - 1) hn2 (by omega) (by rw [p128_9]; omega) (by omega) (by omega) (by omega) (by rw [Int.pow_zero]; omega)
    unfold gpAt
    rw [if_neg (by omega), hr, e, hm, if_neg (by omega), this, Int.pow_zero]
    simp only [List.length_cons, Prod.mk.injEq, and_true]
    exact ⟨by omega, by omega⟩
theorem short (n : Nat) (hn1 : 1 ≤ n) (hn : n ≤ 8) (v high : Int) (hv0 : 0 ≤ v) (hv1 : v ≤ 4611686018427387903) (h0 : 0 ≤ high) (h1 : high ≤ 255) (h : high % ((2 ^ n : Nat) : Int) = 0) :
    gpAt ((prefixed (((2 ^ n : Nat) : Int) - 1) v high).dropLast) 0 n = (0, 0, 2) := by
  have hb := pow2bound n hn
  have hf := highFits n hn high h0 h1 h
  by_cases c : v < ((2 ^ n : Nat) : Int) - 1
  · unfold prefixed
    rw [if_pos c]
    unfold gpAt
    rw [if_pos (by simp)]
  · have hm := modHigh n high (((2 ^ n : Nat) : Int) - 1) h (by omega) (by omega)
    have e : (high + (((2 ^ n : Nat) : Int) - 1)) % 256 = high + (((2 ^ n : Nat) : Int) - 1) := by omega
    unfold prefixed
    rw [if_neg c, List.dropLast_cons_of_ne_nil (leb_ne 8 _)]
    generalize hbl : ((high + (((2 ^ n : Nat) : Int) - 1)) % 256 :: (leb 8 (v - (((2 ^ n : Nat) : Int) - 1))).dropLast) = b
    obtain ⟨hi, hr, hn2⟩ := rdDrop b 0 _ _ (by rw [List.drop_zero]; exact hbl.symm)
    have := gp_short b 8 0 10 1 (v - (((2 ^ n : Nat) : Int) - 1)) (((2 ^ n : Nat) : Int) - 1) hn2 (by omega) (by rw [p128_9]; omega) (by omega) (by omega) (by omega) (by rw [Int.pow_zero]; omega)
    unfold gpAt
    rw [if_neg (by omega)]
    have hr0 : rd b 0 = (high + (((2 ^ n : Nat) : Int) - 1)) % 256 := hr
    rw [show ((0 : Nat) : Int) = 0 from rfl, hr0, e, hm, if_neg (by omega)]
    exact this
theorem leb_bytes : ∀ (d : Nat) (u : Int), 0 ≤ u → ∀ x ∈ leb d u, 0 ≤ x ∧ x ≤ 255
  | 0, u, h, x, hx => by simp [leb] at hx; omega
  | d + 1, u, h, x, hx => by
    simp only [leb] at hx
    split at hx
    · rcases List.mem_cons.1 hx with rfl | hx
      · omega
      · exact leb_bytes d (u / 128) (by omega) x hx
    · simp at hx; omega
theorem prefixed_bytes (m v high : Int) (h : v < m ∨ 0 ≤ v - m) : ∀ x ∈ prefixed m v high, 0 ≤ x ∧ x ≤ 255 := by
  intro x hx
  unfold prefixed at hx
  split at hx
  · simp at hx; omega
  · rcases List.mem_cons.1 hx with rfl | hx
    · omega
    · exact leb_bytes 8 _ (by omega) x hx
theorem prefixed_pos (m v high : Int) : 1 ≤ (prefixed m v high).length := by
  unfold prefixed
  split <;> simp
/-! ### a drawn number -/
theorem draw_pp (code : List Int) (h1 : code.length ≤ 1048576) (h2 : ∀ x ∈ code, 0 ≤ x ∧ x ≤ 255) : ∃ v bits high : Int, Ev (fun k => spec_DrawPutPrefix.f k code) (v, bits, high) := by
  have h := src_start code h1 h2
  obtain ⟨r1, a1, s1, e1, p1, q1, _, g1⟩ := src_next (b := 99999999) 8 (by omega) (by omega) (h.less (by omega))
  have q1 := q1 (by omega)
  have j1 : ∀ (a s b6 b9 b10 : Int), Src code 99 a s → ∃ v bits high : Int, Ev (fun k => spec_DrawPutPrefix.j1 k b6 b9 b10 code a s) (v, bits, high) := by
    intro a s b6 b9 b10 g
    obtain ⟨c, a2, s2, e2, g2⟩ := src_chance (b := 90) 10 (by omega) (by omega) (g.less (by omega))
    obtain ⟨r3, a3, s3, e3, p3, q3, _, g3⟩ := src_next (b := 80) 11 (by omega) (by omega) (g2.less (by omega))
    obtain ⟨r4, a4, s4, e4, p4, q4, _, g4⟩ := src_next (b := 70) 300 (by omega) (by omega) (g3.less (by omega))
    cases c with
    | true =>
      refine ⟨b10, wrap64 (r3 - 1), wrap64 (r4 - 2), evSucc ?_⟩
      simp only [spec_DrawPutPrefix.j1]
      exact evPut e2 (evPos (by first | rfl | trivial) (evPut e3 (evPut e4 (evNow rfl))))
    | false =>
      refine ⟨b10, b6, b9, evSucc ?_⟩
      simp only [spec_DrawPutPrefix.j1]
      exact evPut e2 (evNeg (by simp) (evNow rfl))
  have l0 : ∀ (d i : Nat), (i : Int) + d = 1 + r1 → ∃ v bits high : Int, Ev (fun k => spec_DrawPutPrefix.l0 k (1 + r1) ((2 ^ i : Nat) : Int) (i : Int) code a1 s1) (v, bits, high) := by
    intro d
    induction d with
    | zero =>
      intro i hi
      have hp := pow2bound i (by omega)
      obtain ⟨r2, a2, s2, e2, p2, q2, _, g2⟩ := src_next (b := 9999) (Int.tdiv 256 ((2 ^ i : Nat) : Int)) (by
        rw [Int.tdiv_eq_ediv_of_nonneg (by omega)]
        have : (256 : Int) / ((2 ^ i : Nat) : Int) ≤ 256 := Int.ediv_le_self _ (by omega)
        omega) (by omega) (g1.less (by omega))
      have hw : wrap64 (Int.tdiv (256 : Int) ((2 ^ i : Nat) : Int)) = Int.tdiv 256 ((2 ^ i : Nat) : Int) := by
        have h3 : Int.tdiv 256 ((2 ^ i : Nat) : Int) = 256 / ((2 ^ i : Nat) : Int) := Int.tdiv_eq_ediv_of_nonneg (by omega)
        have h4 : (256 : Int) / ((2 ^ i : Nat) : Int) ≤ 256 := Int.ediv_le_self _ (by omega)
        have h5 : 0 ≤ (256 : Int) / ((2 ^ i : Nat) : Int) := Int.ediv_nonneg (by omega) (by omega)
        rw [h3]
        exact w64 (by omega) (by omega)
      obtain ⟨r3, a3, s3, e3, _, _, g3⟩ := src_number (b := 999) (by omega) (g2.less (by omega))
      obtain ⟨c, a4, s4, e4, g4⟩ := src_chance (b := 900) 3 (by omega) (by omega) (g3.less (by omega))
      cases c with
      | true =>
        obtain ⟨r5, a5, s5, e5, _, _, _, g5⟩ := src_next (b := 800) 3 (by omega) (by omega) (g4.less (by omega))
        obtain ⟨v, bits, high, e6⟩ := j1 a5 s5 (1 + r1) (wrap64 (((2 ^ i : Nat) : Int) * r2)) (wrap64 (wrap64 (((2 ^ i : Nat) : Int) - 2) + r5)) (g5.less (by omega))
        refine ⟨v, bits, high, evSucc ?_⟩
        simp only [spec_DrawPutPrefix.l0]
        rw [hw]
        exact evNeg (by omega) (evNeg (by omega) (evPut e2 (evBind e3 (evPut e4 (evPos (by first | rfl | trivial) (evPut e5 e6))))))
      | false =>
        obtain ⟨v, bits, high, e6⟩ := j1 a4 s4 (1 + r1) (wrap64 (((2 ^ i : Nat) : Int) * r2)) r3 (g4.less (by omega))
        refine ⟨v, bits, high, evSucc ?_⟩
        simp only [spec_DrawPutPrefix.l0]
        rw [hw]
        exact evNeg (by omega) (evNeg (by omega) (evPut e2 (evBind e3 (evPut e4 (evNeg (by simp) e6)))))
    | succ d ih =>
      intro i hi
      have hp := pow2bound i (by omega)
      obtain ⟨v, bits, high, e⟩ := ih (i + 1) (by omega)
      refine ⟨v, bits, high, evSucc ?_⟩
      simp only [spec_DrawPutPrefix.l0]
      rw [w64succ i (by omega), w64 (x := 2 * ((2 ^ i : Nat) : Int)) (by omega) (by omega)]
      rw [Nat.pow_succ] at e
      have e' : 2 * ((2 ^ i : Nat) : Int) = ((2 ^ i * 2 : Nat) : Int) := by omega
      rw [e']
      exact evPos (by omega) e
  obtain ⟨v, bits, high, e⟩ := l0 (1 + r1).toNat 0 (by omega)
  refine ⟨v, bits, high, ?_⟩
  unfold spec_DrawPutPrefix.f spec_l01Source.f
  refine evPut rfl (evPut e1 ?_)
  rw [w64 (x := 1 + r1) (by omega) (by omega)]
  simpa using e

theorem FnPrefix : laws_FnPrefix.Stmt := by
  intro code ⟨_, hw⟩ hl
  have hB : ∀ x ∈ code, 0 ≤ x ∧ x ≤ 255 := fun x hx => wfB (hw x hx)
  refine evEnds ?_
  unfold laws_FnPrefix.f
  refine evSplit (fun _ => Ev.now _) (fun h1 => ?_)
  obtain ⟨v, bits, high, e⟩ := draw_pp code (by omega) hB
  refine evBind e (evBind (pp_impl v bits high) (evBind (pp_spec v bits high) (evPos (by first | rfl | trivial) (evSucc ?_))))
  simp only [laws_FnPrefix.j0]
  refine evNeg (by simp) ?_
  by_cases c : 0 ≤ v ∧ v ≤ 4611686018427387903 ∧ 1 ≤ bits ∧ bits ≤ 8 ∧ 0 ≤ high ∧ high ≤ 255 ∧ high % ((2 ^ bits.toNat : Nat) : Int) = 0
  · have hp : putPrefix v bits high = (prefixed (((2 ^ bits.toNat : Nat) : Int) - 1) v high, 0) := by unfold putPrefix; rw [if_pos c]
    obtain ⟨c1, c2, c3, c4, c5, c6, c7⟩ := c
    obtain ⟨n, rfl⟩ : ∃ n : Nat, bits = (n : Int) := ⟨bits.toNat, by omega⟩
    rw [Int.toNat_natCast] at hp c7
    rw [hp]
    have hb := pow2bound n (by omega)
    have l1 := prefixed_length (((2 ^ n : Nat) : Int) - 1) v high
    have l2 := prefixed_pos (((2 ^ n : Nat) : Int) - 1) v high
    have hby := prefixed_bytes (((2 ^ n : Nat) : Int) - 1) v high (by omega)
    have hbk := back n (by omega) (by omega) v high c1 c2 c5 c6 c7
    have hsh := short n (by omega) (by omega) v high c1 c2 c5 c6 c7
    generalize prefixed (((2 ^ n : Nat) : Int) - 1) v high = p at *
    have g1 : getPrefix ([1, 255] ++ p) 2 (n : Int) = (v, ((2 + p.length : Nat) : Int), 0) := by
      unfold getPrefix
      rw [if_neg (by simp; omega), if_neg (by simp; omega)]
      exact hbk
    have g2 : getPrefix (p.take (((p.length : Int) - 1).toNat)) 0 (n : Int) = (0, 0, 2) := by
      unfold getPrefix
      rw [if_neg (by simp; omega), if_neg (by simp; omega)]
      have e3 : p.take (((p.length : Int) - 1).toNat) = p.dropLast := by
        rw [List.dropLast_eq_take]
        congr 1
        omega
      rw [e3]
      exact hsh
    have i1 := gp_impl ([1, 255] ++ p) (by
      intro x hx
      rcases List.mem_append.1 hx with hx | hx
      · simp at hx; omega
      · exact hby x hx) 2 (n : Int)
    have i2 := gp_impl (p.take (((p.length : Int) - 1).toNat)) (fun x hx => hby x (List.mem_of_mem_take hx)) 0 (n : Int)
    rw [g1] at i1
    rw [g2] at i2
    dsimp only
    rw [w64 (x := (p.length : Int) - 1) (by omega) (by omega), w64 (x := 2 + (p.length : Int)) (by omega) (by omega)]
    refine evPos rfl (evPut rfl (evPos (by simp; omega) (evBind i1 (evPos (by omega) (evPos (by omega) (evBind i2 (evPos rfl (evPos rfl (evPos (by dsimp only; omega) (evNow rfl))))))))))
  · have hp : putPrefix v bits high = ([], 1) := by unfold putPrefix; rw [if_neg c]
    rw [hp]
    exact evNeg (by simp) (Ev.now _)

end Go.Proofs.Ytffmebjogdemhaa.Pure
