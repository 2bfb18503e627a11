/- The program's GetPrefix answers what the reference's answers, for every byte list and two numbers; no condition. -/
import Derived.Test.YtffmebjogdemhaaPFnExactGetPrefixx0
import Derived.Test.YtffmebjogdemhaaPFnExactGetPrefixx1
import Derived.Test.YtffmebjogdemhaaPFnExactGetPrefixx2
import Derived.Test.YtffmebjogdemhaaPFnExactGetPrefixx3
import Derived.Test.YtffmebjogdemhaaStmtFnExactGetPrefix
import Derived.Laws.BitsLemmas
set_option linter.unusedVariables false
set_option linter.unusedSimpArgs false
set_option maxRecDepth 4000
namespace Go.Proofs.Ytffmebjogdemhaa.Pure
open Go.RowKit Go.Proofs.Ytffmebjogdemhaa.PFnExactGetPrefix Go.Proofs.YtffmebjogdemhaaW.PrintWords Go.Proofs.YtffmebjogdemhaaW.PrintLast Go.Proofs.YtffmebjogdemhaaW.PrintMore

/-! ### tools: what a printed function comes to -/
theorem evSucc {α : Type} {g : Nat → Option α} {r : α} (h : Ev (fun k => g (k + 1)) r) : Ev g r := Ev.step (fun _ => rfl) h
theorem evPos {α : Type} {c : Prop} {dc : Decidable c} {a b : Nat → Option α} {r : α} (h : c) (e : Ev a r) : Ev (fun k => if c then a k else b k) r :=
  Ev.congr (fun _ => if_pos h) e
theorem evNeg {α : Type} {c : Prop} {dc : Decidable c} {a b : Nat → Option α} {r : α} (h : ¬ c) (e : Ev b r) : Ev (fun k => if c then a k else b k) r :=
  Ev.congr (fun _ => if_neg h) e
theorem evSplit {α : Type} {c : Prop} {dc : Decidable c} {a b : Nat → Option α} {r : α} (h : c → Ev a r) (h' : ¬ c → Ev b r) : Ev (fun k => if c then a k else b k) r := by
  by_cases hc : c
  · exact evPos hc (h hc)
  · exact evNeg hc (h' hc)
theorem evBind {α β : Type} {g : Nat → Option α} {f : Nat → α → Option β} {a : α} {r : β} (h : Ev g a) (k : Ev (fun n => f n a) r) : Ev (fun n => (g n).bind (f n)) r := Ev.bind h k
theorem evPut {α β : Type} {o : Option α} {f : Nat → α → Option β} {a : α} {r : β} (h : o = some a) (k : Ev (fun n => f n a) r) : Ev (fun n => o.bind (f n)) r :=
  Ev.congr (fun _ => by rw [h]; rfl) k
theorem evNow {α : Type} {r r' : α} (h : r = r') : Ev (fun _ => some r) r' := h ▸ Ev.now r
theorem evOf {α : Type} {o : Option α} {r : α} (h : o = some r) : Ev (fun _ => o) r := ⟨0, fun _ _ => h⟩
theorem evEnds {α : Type} {g : Nat → Option α} {r : α} (h : Ev g r) : ∃ k, g k = some r := Ev.rounds h
theorem w64 {x : Int} (h : -9223372036854775808 ≤ x) (h' : x ≤ 9223372036854775807) : wrap64 x = x := by unfold wrap64; omega
theorem w64succ (i : Nat) (h : i < 4611686018427387904) : wrap64 ((i : Int) + 1) = ((i + 1 : Nat) : Int) := by unfold wrap64; omega
theorem wfI {x : Int} (h : (Lit.int .i64 x).wf = true) : -9223372036854775808 ≤ x ∧ x ≤ 9223372036854775807 := by
  simp only [Lit.wf, IntKind.min, IntKind.max, IntKind.bits, IntKind.signed, Bool.and_eq_true, decide_eq_true_eq] at h
  simpa using h
theorem wfB {x : Int} (h : (Lit.int .u8 x).wf = true) : 0 ≤ x ∧ x ≤ 255 := by
  simp only [Lit.wf, IntKind.min, IntKind.max, IntKind.bits, IntKind.signed, Bool.and_eq_true, decide_eq_true_eq] at h
  simpa using h
theorem rdN (l : List Int) (i : Nat) (h : i < l.length) : rd l (i : Int) = l[i] := by simp [rd, List.getD_eq_getElem?_getD, h]
theorem fillStep {α : Type} (l : List α) (z : α) (i d : Nat) (h : i + (d + 1) = l.length) : (l.take i ++ List.replicate (d + 1) z).set i (l[i]'(by omega)) = l.take (i + 1) ++ List.replicate d z := by
  rw [List.set_append_right _ _ (by simp; omega), List.take_succ_eq_append_getElem (show i < l.length by omega), List.append_assoc]
  congr 1
  have e : i - (l.take i).length = 0 := by simp; omega
  rw [e]
  rfl

/-! ### the laws' own helpers on bytes -/
theorem eqB_loop (l : List Int) (hl : l.length < 4611686018427387904) : ∀ (d i : Nat), i + d = l.length → Ev (fun k => laws_eqByteS.l0 k l l (i : Int)) true := by
  intro d
  induction d with
  | zero =>
    intro i h
    refine evSucc ?_
    simp only [laws_eqByteS.l0]
    exact evNeg (by omega) (Ev.now _)
  | succ d ih =>
    intro i h
    refine evSucc ?_
    simp only [laws_eqByteS.l0]
    refine evPos (by omega) (evPos (by omega) (evPos (by omega) (evPos (by first | rfl | trivial) ?_)))
    rw [w64succ i (by omega)]
    exact ih (i + 1) (by omega)
theorem eqB (l : List Int) (hl : l.length < 4611686018427387904) : Ev (fun k => laws_eqByteS.f k l l) true := by
  unfold laws_eqByteS.f
  exact evPos rfl (eqB_loop l hl l.length 0 (by omega))

theorem toB_loop (l : List Int) (hl : l.length < 4611686018427387904) : ∀ (d i : Nat), i + d = l.length → Ev (fun k => laws_toByteS.l0 k l (l.take i ++ List.replicate d 0) (i : Int)) l := by
  intro d
  induction d with
  | zero =>
    intro i h
    refine evSucc ?_
    simp only [laws_toByteS.l0]
    refine evNeg (by omega) (evNow ?_)
    simp [List.take_of_length_le (show l.length ≤ i by omega)]
  | succ d ih =>
    intro i h
    refine evSucc ?_
    simp only [laws_toByteS.l0]
    refine evPos (by omega) (evPos (by omega) (evPos (by simp; omega) ?_))
    rw [w64succ i (by omega), rdN l i (by omega), Int.toNat_natCast, fillStep l 0 i d h]
    exact ih (i + 1) (by omega)
theorem toB (l : List Int) (hl : l.length ≤ 140737488351232) : Ev (fun k => laws_toByteS.f k l) l := by
  unfold laws_toByteS.f
  refine evPos (by omega) (evPos (by omega) ?_)
  have := toB_loop l (by omega) l.length 0 (by omega)
  simpa using this

/-! ### a number in pieces of seven bits -/
def leb : Nat → Int → List Int
  | 0, v => [v % 256]
  | n + 1, v => if v ≥ 128 then (v % 128 + 128) :: leb n (v / 128) else [v % 256]
theorem pow128 (n : Nat) : (128 : Int) ^ (n + 1) = 128 ^ n * 128 := Int.pow_succ _ _
theorem pow128pos (n : Nat) : (0 : Int) < 128 ^ n := Int.pow_pos (by decide)
theorem bitsAndI (x : Int) (i : Nat) (hi : i ≤ 63) (h0 : 0 ≤ x) (h1 : x ≤ 9223372036854775807) : Go.bits .and .i64 x (2 ^ i - 1) = x % 2 ^ i :=
  bits_mask .i64 63 (by decide) (fun n h h' => by rw [IntKind.wrap_i64]; omega) i hi x h0 (by omega)
theorem bitsAndU (x : Int) (i : Nat) (hi : i ≤ 8) (h0 : 0 ≤ x) (h1 : x ≤ 255) : Go.bits .and .u8 x (2 ^ i - 1) = x % 2 ^ i :=
  bits_mask .u8 8 (by decide) (fun n h h' => by rw [IntKind.wrap_u8]; omega) i hi x h0 (by omega)
theorem bitsOrComm (k : IntKind) (x y : Int) : Go.bits .or k x y = Go.bits .or k y x := by
  simp only [Go.bits]; rw [BitVec.or_comm]
theorem bitsOrI (x y : Int) (i : Nat) (hi : i ≤ 63) (hx0 : 0 ≤ x) (hx : x % 2 ^ i = 0) (hx1 : x ≤ 9223372036854775807) (hy0 : 0 ≤ y) (hy : y < 2 ^ i) (hy1 : y ≤ 9223372036854775807) : Go.bits .or .i64 x y = x + y :=
  bits_join .i64 63 (by decide) (fun n h h' => by rw [IntKind.wrap_i64]; omega) i x y hx0 hx (by omega) hy0 hy (by omega)
theorem and127 (x : Int) (h0 : 0 ≤ x) (h1 : x ≤ 9223372036854775807) : Go.bits .and .i64 x 127 = x % 128 := bitsAndI x 7 (by decide) h0 h1
theorem or128 (x : Int) (h0 : 0 ≤ x) (h1 : x < 128) : Go.bits .or .i64 x 128 = x + 128 := by
  rw [bitsOrComm, bitsOrI 128 x 7 (by decide) (by decide) (by decide) (by decide) h0 (by omega) (by omega)]; omega
theorem shlN (x : Int) (n : Nat) (hn : n ≤ 64) : shl .i64 x (n : Int) = wrap64 (x * 2 ^ n) := by
  unfold shl
  rw [IntKind.wrap_i64, Int.toNat_natCast, Nat.min_eq_left (by simpa [IntKind.bits] using hn)]
  unfold wrap64; rfl
theorem castPow2 (n : Nat) : ((2 ^ n : Nat) : Int) = 2 ^ n := by rw [Int.natCast_pow]; rfl
theorem p128_9 : (128 : Int) ^ (8 + 1) = 9223372036854775808 := by decide
theorem pow2bound (n : Nat) (hn : n ≤ 8) : 1 ≤ 2 ^ n ∧ 2 ^ n ≤ 256 := ⟨Nat.one_le_two_pow, Nat.pow_le_pow_right (by decide) hn⟩
theorem shl1N (n : Nat) (hn : n ≤ 8) : shl .i64 1 (n : Int) = ((2 ^ n : Nat) : Int) := by
  rw [shlN 1 n (by omega), Int.one_mul, ← castPow2]
  have := pow2bound n hn
  exact w64 (by omega) (by omega)

/-! ### a number in a prefix is read -/
theorem two7 (k : Nat) : (2 : Int) ^ (7 * k) = 128 ^ k := by
  induction k with
  | zero => rfl
  | succ k ih =>
    have : 7 * (k + 1) = 7 * k + 7 := by omega
    rw [this, Int.pow_add, ih, Int.pow_succ]; rfl
theorem shrN (x : Int) (n : Nat) (hn : n ≤ 64) : shr .i64 x (n : Int) = x / 2 ^ n := by
  unfold shr
  rw [Int.toNat_natCast, Nat.min_eq_left (by simpa [IntKind.bits] using hn)]
theorem and127u (x : Int) (h0 : 0 ≤ x) (h1 : x ≤ 255) : Go.bits .and .u8 x 127 = x % 128 := bitsAndU x 7 (by decide) h0 h1
/-- What stands behind a full prefix: round 'k' of ten. -/
def gpLoop (b : List Int) : Nat → Nat → Nat → Int → Int × Int × Int
  | 0, _, _, _ => (0, 0, 3)
  | d + 1, k, at_, v =>
    if b.length ≤ at_ then (0, 0, 2)
    else if k = 9 ∧ rd b at_ % 128 > 0 ∨ k < 9 ∧ rd b at_ % 128 > (4611686018427387903 - v) / 128 ^ k then (0, 0, 3)
    else if rd b at_ < 128 then (if k < 9 then v + rd b at_ % 128 * 128 ^ k else v, ((at_ + 1 : Nat) : Int), 0)
    else gpLoop b d (k + 1) (at_ + 1) (if k < 9 then v + rd b at_ % 128 * 128 ^ k else v)
def gpAt (b : List Int) (at_ n : Nat) : Int × Int × Int :=
  if b.length ≤ at_ then (0, 0, 2)
  else if rd b at_ % ((2 ^ n : Nat) : Int) < ((2 ^ n : Nat) : Int) - 1 then (rd b at_ % ((2 ^ n : Nat) : Int), ((at_ + 1 : Nat) : Int), 0)
  else gpLoop b 10 0 (at_ + 1) (rd b at_ % ((2 ^ n : Nat) : Int))
theorem rdB {b : List Int} (hb : ∀ x ∈ b, 0 ≤ x ∧ x ≤ 255) (i : Nat) : 0 ≤ rd b (i : Int) ∧ rd b (i : Int) ≤ 255 := by
  by_cases h : i < b.length
  · rw [rdN b i h]; exact hb _ (List.getElem_mem h)
  · simp [rd, List.getD_eq_getElem?_getD, List.getElem?_eq_none (Nat.le_of_not_lt h)]
theorem partFits {p u v : Int} (hu : 0 < u) (h : ¬ p > (4611686018427387903 - v) / u) : p * u ≤ 4611686018427387903 - v :=
  (Int.le_ediv_iff_mul_le hu).mp (by omega)
theorem pow128le (k : Nat) (h : k ≤ 7) : (128 : Int) ^ k ≤ 562949953421312 := by
  have h1 : (128 : Nat) ^ k ≤ 128 ^ 7 := Nat.pow_le_pow_right (by decide) h
  have e : (128 : Nat) ^ 7 = 562949953421312 := by decide
  rw [e] at h1
  have h2 := Int.ofNat_le.2 h1
  rw [Int.natCast_pow] at h2
  exact h2
theorem emodLe (x : Int) (m : Nat) (hm : 1 ≤ m) (h : 0 ≤ x) : x % (m : Int) ≤ x := by
  have h1 := Int.mul_ediv_add_emod x m
  have h2 : 0 ≤ (m : Int) * (x / m) := Int.mul_nonneg (by omega) (Int.ediv_nonneg h (by omega))
  omega
theorem gp_spec1 (b : List Int) (hb : ∀ x ∈ b, 0 ≤ x ∧ x ≤ 255) (hl : b.length < 4611686018427387904) : ∀ (d k at_ : Nat) (v u : Int), k + d = 10 → at_ ≤ b.length → 0 ≤ v → v ≤ 4611686018427387903 → (k ≤ 8 → u = 128 ^ k) → (8 < k → u = 128 ^ 8) →
    Ev (fun f => spec_l14Prefix.l1 f b (at_ : Int) v u (k : Int)) (gpLoop b d k at_ v) := by
  intro d
  induction d with
  | zero =>
    intro k at_ v u hk hat h0 h1 hu hu'
    refine evSucc ?_
    simp only [spec_l14Prefix.l1]
    exact evNeg (by omega) (Ev.now _)
  | succ d ih =>
    intro k at_ v u hk hat h0 h1 hu hu'
    refine evSucc ?_
    simp only [spec_l14Prefix.l1]
    refine evPos (by omega) ?_
    unfold gpLoop
    refine evSplit (fun h => evNow (by rw [if_pos (by omega)])) (fun h => ?_)
    rw [if_neg (by omega)]
    have hr := rdB hb at_
    have hup := pow128pos k
    rw [w64 (x := rd b (at_ : Int)) (by omega) (by omega), Int.tmod_eq_emod_of_nonneg hr.1]
    have w1 := w64succ at_ (by omega)
    refine evPos (by omega) (evPos (by omega) ?_)
    -- behind the test: the number, and the next round
    have tail : ∀ v' : Int, 0 ≤ v' → v' ≤ 4611686018427387903 → Ev (fun f => spec_l14Prefix.j3 f b (at_ : Int) v' u (k : Int)) (if rd b (at_ : Int) < 128 then (v', ((at_ + 1 : Nat) : Int), 0) else gpLoop b d (k + 1) (at_ + 1) v') := by
      intro v' h0' h1'
      refine evSucc ?_
      simp only [spec_l14Prefix.j3]
      have e1 : wrap64 (((at_ + 1 : Nat) : Int) - 1) = (at_ : Int) := by rw [w64 (by omega) (by omega)]; omega
      rw [w1, e1]
      refine evSplit (fun h8 => ?_) (fun h8 => ?_)
      · refine evPos (by omega) (evPos (by omega) ?_)
        refine evSplit (fun hx => evNow (by rw [if_pos hx])) (fun hx => ?_)
        rw [if_neg hx, w64succ k (by omega)]
        have hu1 := hu (by omega)
        have hb8 := pow128le k (by omega)
        rw [w64 (x := u * 128) (by omega) (by omega)]
        exact ih (k + 1) (at_ + 1) v' (u * 128) (by omega) (by omega) h0' h1' (fun _ => by rw [hu1, Int.pow_succ]) (fun _ => by omega)
      · refine evPos (by omega) (evPos (by omega) ?_)
        refine evSplit (fun hx => evNow (by rw [if_pos hx])) (fun hx => ?_)
        rw [if_neg hx, w64succ k (by omega)]
        exact ih (k + 1) (at_ + 1) v' u (by omega) (by omega) h0' h1' (fun _ => by omega) (fun _ => by
          by_cases hk8 : k = 8
          · subst hk8; exact hu (by omega)
          · exact hu' (by omega))
    have bad : Ev (fun f => spec_l14Prefix.j2 f b (at_ : Int) v u (k : Int) (rd b (at_ : Int) % 128) true) (0, 0, 3) := by
      refine evSucc ?_
      simp only [spec_l14Prefix.j2]
      exact evPos (by first | rfl | trivial) (Ev.now _)
    refine evSplit (fun h9 => ?_) (fun h9 => ?_)
    · have h9' : k = 9 := by omega
      refine evSplit (fun hp => ?_) (fun hp => ?_)
      · rw [if_pos (by omega)]; exact bad
      · rw [if_neg (by omega), if_neg (show ¬ (k < 9) by omega)]
        refine evNeg (by omega) (evSucc ?_)
        simp only [spec_l14Prefix.j2]
        refine evNeg (by simp) (evNeg (by omega) ?_)
        exact tail v h0 h1
    · have hk8 : k < 9 := by omega
      have hu1 := hu (by omega)
      subst hu1
      refine evPos (by omega) (evNeg (by omega) ?_)
      have hdiv : (4611686018427387903 - v) / 128 ^ k ≤ 4611686018427387903 - v := Int.ediv_le_self _ (by omega)
      have hdiv0 : 0 ≤ (4611686018427387903 - v) / 128 ^ k := Int.ediv_nonneg (by omega) (by omega)
      rw [w64 (x := 4611686018427387903 - v) (by omega) (by omega), Int.tdiv_eq_ediv_of_nonneg (by omega), w64 (x := (4611686018427387903 - v) / 128 ^ k) (by omega) (by omega)]
      by_cases hp : rd b (at_ : Int) % 128 > (4611686018427387903 - v) / 128 ^ k
      · rw [if_pos (by omega), decide_eq_true hp]; exact bad
      · rw [if_neg (by omega), decide_eq_false hp, if_pos hk8]
        have hf := partFits hup hp
        have hf0 : 0 ≤ rd b (at_ : Int) % 128 * 128 ^ k := Int.mul_nonneg (by omega) (by omega)
        refine evSucc ?_
        simp only [spec_l14Prefix.j2]
        refine evNeg (by simp) (evPos (by omega) ?_)
        rw [w64 (x := rd b (at_ : Int) % 128 * 128 ^ k) (by omega) (by omega), w64 (by omega) (by omega)]
        exact tail _ (by omega) (by omega)
theorem gp_spec0 (b : List Int) (hb : ∀ x ∈ b, 0 ≤ x ∧ x ≤ 255) (hl : b.length < 4611686018427387904) (n at_ : Nat) (hn : n ≤ 8) (hat : at_ < b.length) : ∀ (d i : Nat), i + d = n →
    Ev (fun f => spec_l14Prefix.l0 f b (at_ : Int) (n : Int) ((2 ^ i : Nat) : Int) (i : Int)) (gpAt b at_ n) := by
  intro d
  induction d with
  | zero =>
    intro i h
    obtain rfl : i = n := by omega
    have hp := pow2bound i hn
    have hr := rdB hb at_
    refine evSucc ?_
    simp only [spec_l14Prefix.l0]
    unfold gpAt
    rw [if_neg (by omega)]
    generalize (2 ^ i : Nat) = m at *
    have hm0 : 0 ≤ rd b (at_ : Int) % (m : Int) := Int.emod_nonneg _ (by omega)
    have hm1 : rd b (at_ : Int) % (m : Int) ≤ rd b (at_ : Int) := emodLe _ m (by omega) hr.1
    rw [w64 (x := rd b (at_ : Int)) (by omega) (by omega), Int.tmod_eq_emod_of_nonneg hr.1, w64 (x := (m : Int) - 1) (by omega) (by omega), w64succ at_ (by omega)]
    refine evNeg (by omega) (evPos (by omega) (evPos (by omega) (evNeg (by omega) ?_)))
    refine evSplit (fun h => evNow (by rw [if_pos h])) (fun h => ?_)
    rw [if_neg h]
    exact gp_spec1 b hb hl 10 0 (at_ + 1) _ 1 (by omega) (by omega) hm0 (by omega) (fun _ => rfl) (fun h => by omega)
  | succ d ih =>
    intro i h
    have hp := pow2bound i (by omega)
    refine evSucc ?_
    simp only [spec_l14Prefix.l0]
    refine evPos (by omega) ?_
    rw [w64succ i (by omega), w64 (x := 2 * ((2 ^ i : Nat) : Int)) (by omega) (by omega)]
    have := ih (i + 1) (by omega)
    rw [Nat.pow_succ] at this
    have e : 2 * ((2 ^ i : Nat) : Int) = ((2 ^ i * 2 : Nat) : Int) := by omega
    rw [e]
    exact this
theorem gp_specP (b : List Int) (hb : ∀ x ∈ b, 0 ≤ x ∧ x ≤ 255) (hl : b.length < 4611686018427387904) (n at_ : Nat) (hn : n ≤ 8) : Ev (fun f => spec_l14Prefix.f f b (at_ : Int) (n : Int)) (gpAt b at_ n) := by
  unfold spec_l14Prefix.f
  by_cases hat : at_ < b.length
  · refine evNeg (by omega) ?_
    have := gp_spec0 b hb hl n at_ hn hat n 0 (by omega)
    simpa using this
  · refine evPos (by omega) (evNow ?_)
    unfold gpAt
    rw [if_pos (by omega)]
def getPrefix (b : List Int) (at_ bits : Int) : Int × Int × Int :=
  if b.length > 65536 then (0, 0, 4)
  else if bits < 1 ∨ bits > 8 ∨ at_ < 0 ∨ at_ > b.length then (0, 0, 1)
  else gpAt b at_.toNat bits.toNat
theorem gp_spec (b : List Int) (hb : ∀ x ∈ b, 0 ≤ x ∧ x ≤ 255) (at_ bits : Int) : Ev (fun f => spec_GetPrefix.f f b at_ bits) (getPrefix b at_ bits) := by
  unfold spec_GetPrefix.f getPrefix
  refine evSplit (fun h => evNow (by rw [if_pos (by omega)])) (fun h => ?_)
  rw [if_neg (by omega)]
  refine evSplit (fun h => evNow (by rw [if_pos (by omega)])) (fun h1 => ?_)
  refine evSplit (fun h => evNow (by rw [if_pos (by omega)])) (fun h2 => ?_)
  refine evSplit (fun h => evNow (by rw [if_pos (by omega)])) (fun h3 => ?_)
  refine evSplit (fun h => evNow (by rw [if_pos (by omega)])) (fun h4 => ?_)
  rw [if_neg (by omega)]
  obtain ⟨i, rfl⟩ : ∃ i : Nat, at_ = (i : Int) := ⟨at_.toNat, by omega⟩
  obtain ⟨n, rfl⟩ : ∃ n : Nat, bits = (n : Int) := ⟨bits.toNat, by omega⟩
  simp only [Int.toNat_natCast]
  exact evBind (gp_specP b hb (by omega) n i (by omega)) (Ev.now _)
theorem gp_impl1 (b : List Int) (hb : ∀ x ∈ b, 0 ≤ x ∧ x ≤ 255) (hl : b.length < 4611686018427387904) : ∀ (d k at_ : Nat) (v : Int), k + d = 10 → at_ ≤ b.length → 0 ≤ v → v ≤ 4611686018427387903 →
    Ev (fun f => impl_GetPrefix.l0 f b (at_ : Int) v (k : Int)) (gpLoop b d k at_ v) := by
  intro d
  induction d with
  | zero =>
    intro k at_ v hk hat h0 h1
    refine evSucc ?_
    simp only [impl_GetPrefix.l0]
    exact evNeg (by omega) (Ev.now _)
  | succ d ih =>
    intro k at_ v hk hat h0 h1
    refine evSucc ?_
    simp only [impl_GetPrefix.l0]
    refine evPos (by omega) ?_
    unfold gpLoop
    refine evSplit (fun h => evNow (by rw [if_pos (by omega)])) (fun h => ?_)
    rw [if_neg (by omega)]
    have hr := rdB hb at_
    have hup := pow128pos k
    have w1 := w64succ at_ (by omega)
    have w7 : wrap64 (7 * (k : Int)) = ((7 * k : Nat) : Int) := by rw [w64 (by omega) (by omega)]; omega
    have hdiv : (4611686018427387903 - v) / 128 ^ k ≤ 4611686018427387903 - v := Int.ediv_le_self _ (by omega)
    rw [and127u _ hr.1 hr.2, w64 (x := rd b (at_ : Int) % 128) (by omega) (by omega), w7, w64 (x := 4611686018427387903 - v) (by omega) (by omega)]
    refine evPos (by omega) (evPos (by omega) ?_)
    have bad : Ev (fun f => impl_GetPrefix.j2 f b (at_ : Int) v (k : Int) (rd b (at_ : Int) % 128) true) (0, 0, 3) := by
      refine evSucc ?_
      simp only [impl_GetPrefix.j2]
      exact evPos (by first | rfl | trivial) (Ev.now _)
    have e1 : wrap64 (((at_ + 1 : Nat) : Int) - 1) = (at_ : Int) := by rw [w64 (by omega) (by omega)]; omega
    have small : k < 9 → ¬ rd b (at_ : Int) % 128 > (4611686018427387903 - v) / 128 ^ k → Ev (fun f => impl_GetPrefix.j2 f b (at_ : Int) v (k : Int) (rd b (at_ : Int) % 128) false)
        (if rd b (at_ : Int) < 128 then (if k < 9 then v + rd b at_ % 128 * 128 ^ k else v, ((at_ + 1 : Nat) : Int), 0) else gpLoop b d (k + 1) (at_ + 1) (if k < 9 then v + rd b at_ % 128 * 128 ^ k else v)) := by
      intro hk8 hp
      have hf := partFits hup hp
      have hf0 : 0 ≤ rd b (at_ : Int) % 128 * 128 ^ k := Int.mul_nonneg (by omega) (by omega)
      refine evSucc ?_
      simp only [impl_GetPrefix.j2]
      rw [w7, w1, e1, shlN _ (7 * k) (by omega), two7, w64 (x := rd b (at_ : Int) % 128 * 128 ^ k) (by omega) (by omega), w64 (x := v + rd b (at_ : Int) % 128 * 128 ^ k) (by omega) (by omega), w64succ k (by omega), if_pos hk8]
      refine evNeg (by simp) (evPos (by omega) (evPos (by omega) (evPos (by omega) (evPos (by omega) ?_))))
      refine evSplit (fun hx => evNow (by rw [if_pos hx])) (fun hx => ?_)
      rw [if_neg hx]
      exact ih (k + 1) (at_ + 1) _ (by omega) (by omega) (by omega) (by omega)
    have nine : k = 9 → Ev (fun f => impl_GetPrefix.j2 f b (at_ : Int) v (k : Int) (rd b (at_ : Int) % 128) false)
        (if rd b (at_ : Int) < 128 then (if k < 9 then v + rd b at_ % 128 * 128 ^ k else v, ((at_ + 1 : Nat) : Int), 0) else gpLoop b d (k + 1) (at_ + 1) (if k < 9 then v + rd b at_ % 128 * 128 ^ k else v)) := by
      intro hk9
      refine evSucc ?_
      simp only [impl_GetPrefix.j2]
      rw [w1, e1, w64succ k (by omega), if_neg (show ¬ (k < 9) by omega)]
      refine evNeg (by simp) (evNeg (by omega) (evPos (by omega) (evPos (by omega) ?_)))
      refine evSplit (fun hx => evNow (by rw [if_pos hx])) (fun hx => ?_)
      rw [if_neg hx]
      exact ih (k + 1) (at_ + 1) _ (by omega) (by omega) (by omega) (by omega)
    have sh : shr .i64 (4611686018427387903 - v) ((7 * k : Nat) : Int) = (4611686018427387903 - v) / 128 ^ k ∨ ¬ k < 9 := by
      by_cases hk9 : k < 9
      · left; rw [shrN _ _ (by omega), two7]
      · right; exact hk9
    refine evSplit (fun h9 => ?_) (fun h9 => ?_)
    · have h9' : k = 9 := by omega
      refine evSplit (fun hp => ?_) (fun hp => ?_)
      · refine evNeg (by omega) ?_
        have := nine h9'
        rwa [if_neg (by omega)]
      · rw [if_pos (by omega)]; exact bad
    · have hk8 : k < 9 := by omega
      refine evPos (by omega) (evPos (by omega) ?_)
      rcases sh with sh | sh
      · rw [sh]
        by_cases hp : rd b (at_ : Int) % 128 > (4611686018427387903 - v) / 128 ^ k
        · rw [if_pos (by omega), decide_eq_true hp]; exact bad
        · rw [if_neg (by omega), decide_eq_false hp]
          exact small hk8 hp
      · exact absurd hk8 sh
theorem andMask (x : Int) (n : Nat) (hn : n ≤ 8) (h0 : 0 ≤ x) (h1 : x ≤ 255) : Go.bits .and .i64 x (((2 ^ n : Nat) : Int) - 1) = x % ((2 ^ n : Nat) : Int) := by
  have := bitsAndI x n (by omega) h0 (by omega)
  rw [← castPow2] at this
  exact this
theorem gp_implAt (b : List Int) (hb : ∀ x ∈ b, 0 ≤ x ∧ x ≤ 255) (hl : b.length < 4611686018427387904) (n at_ : Nat) (hn : n ≤ 8) (hat : at_ ≤ b.length) :
    Ev (fun f => impl_GetPrefix.j0 f b (at_ : Int) (n : Int) false) (gpAt b at_ n) := by
  refine evSucc ?_
  simp only [impl_GetPrefix.j0]
  have hp := pow2bound n hn
  have hr := rdB hb at_
  have ha := andMask _ n hn hr.1 hr.2
  unfold gpAt
  rw [shl1N n hn]
  generalize (2 ^ n : Nat) = m at *
  rw [w64 (x := rd b (at_ : Int)) (by omega) (by omega), w64 (x := (m : Int) - 1) (by omega) (by omega), ha, w64succ at_ (by omega)]
  refine evNeg (by simp) ?_
  refine evSplit (fun h => evNow (by rw [if_pos (by omega)])) (fun h => ?_)
  rw [if_neg (by omega)]
  have hm0 : 0 ≤ rd b (at_ : Int) % (m : Int) := Int.emod_nonneg _ (by omega)
  have hm1 : rd b (at_ : Int) % (m : Int) ≤ rd b (at_ : Int) := emodLe _ m (by omega) hr.1
  refine evPos (by omega) (evPos (by omega) (evPos (by omega) ?_))
  refine evSplit (fun h => evNow (by rw [if_pos h])) (fun h => ?_)
  rw [if_neg h]
  exact gp_impl1 b hb hl 10 0 (at_ + 1) _ (by omega) (by omega) hm0 (by omega)
theorem gp_impl (b : List Int) (hb : ∀ x ∈ b, 0 ≤ x ∧ x ≤ 255) (at_ bits : Int) : Ev (fun f => impl_GetPrefix.f f b at_ bits) (getPrefix b at_ bits) := by
  have bad : ∀ x, (x = true) → Ev (fun f => impl_GetPrefix.j0 f b at_ bits x) (0, 0, 1) := by
    intro x hx
    refine evSucc ?_
    simp only [impl_GetPrefix.j0]
    exact evPos hx (Ev.now _)
  unfold impl_GetPrefix.f impl_tooLong.f getPrefix
  refine evPut rfl ?_
  refine evSplit (fun h => evNow (by simp at h; rw [if_pos (by omega)])) (fun h => ?_)
  simp at h
  rw [if_neg (by omega)]
  refine evSplit (fun h => ?_) (fun h1 => ?_)
  · rw [if_pos (by omega)]; exact bad _ rfl
  refine evSplit (fun h => ?_) (fun h2 => ?_)
  · rw [if_pos (by omega)]; exact bad _ rfl
  refine evSplit (fun h => ?_) (fun h3 => ?_)
  · rw [if_pos (by omega)]; exact bad _ rfl
  by_cases h4 : at_ > (b.length : Int)
  · rw [if_pos (by omega)]; exact bad _ (by simpa using h4)
  · rw [if_neg (by omega), decide_eq_false h4]
    obtain ⟨i, rfl⟩ : ∃ i : Nat, at_ = (i : Int) := ⟨at_.toNat, by omega⟩
    obtain ⟨n, rfl⟩ : ∃ n : Nat, bits = (n : Int) := ⟨bits.toNat, by omega⟩
    simp only [Int.toNat_natCast]
    exact gp_implAt b hb (by omega) n i (by omega) (by omega)

theorem FnExactGetPrefix : laws_FnExactGetPrefix.Stmt := by
  intro b at_ bits ⟨_, hw⟩ hb _ _
  have hB : ∀ x ∈ b, 0 ≤ x ∧ x ≤ 255 := fun x hx => wfB (hw x hx)
  refine evEnds ?_
  unfold laws_FnExactGetPrefix.f
  refine evSplit (fun _ => Ev.now _) (fun h1 => ?_)
  refine evBind (toB b (by omega)) (evBind (gp_spec b hB at_ bits) (evBind (toB b (by omega)) (evBind (gp_impl b hB at_ bits) (evPos rfl (evPos rfl (evSucc ?_))))))
  simp only [laws_FnExactGetPrefix.j0]
  exact evNeg (by simp) (evBind (toB b (by omega)) (evBind (eqB b (by omega)) (evPos rfl (Ev.now _))))

end Go.Proofs.Ytffmebjogdemhaa.Pure
