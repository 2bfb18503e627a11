/- A drawn list of numbers comes back by the program from its bytes; so does each number alone, from the shortest form, which is as long as VarLen tells; nothing is read from the bytes with one less, or one more; no condition. -/
import Derived.Test.YtjhcphcjpndciaaPFnVarsx0
import Derived.Test.YtjhcphcjpndciaaPFnVarsx1
import Derived.Test.YtjhcphcjpndciaaPFnVarsx2
import Derived.Test.YtjhcphcjpndciaaPFnVarsx3
import Derived.Test.YtjhcphcjpndciaaPFnVarsx4
import Derived.Test.YtjhcphcjpndciaaPFnVarsx5
import Derived.Laws.BitsLemmas
import Derived.Laws.BitsAllLaws
set_option linter.unusedVariables false
set_option linter.unusedSimpArgs false
set_option maxRecDepth 4000
namespace Go.Proofs.Ytjhcphcjpndciaa.Pure
open Go.RowKit Go.Proofs.Ytjhcphcjpndciaa.PFnVars Go.Proofs.YtjhcphcjpndciaaW.PrintWords Go.Proofs.YtjhcphcjpndciaaW.PrintLast Go.Proofs.YtjhcphcjpndciaaW.PrintMore

/-! ### tools: what a printed function comes to -/
theorem evSucc {α : Type} {g : Nat → Option α} {r : α} (h : Ev (fun k => g (k + 1)) r) : Ev g r := Ev.step (fun _ => rfl) h
theorem evPos {α : Type} {c : Prop} {dc : Decidable c} {a b : Nat → Option α} {r : α} (h : c) (e : Ev a r) : Ev (fun k => if c then a k else b k) r :=
  Ev.congr (fun _ => if_pos h) e
theorem evNeg {α : Type} {c : Prop} {dc : Decidable c} {a b : Nat → Option α} {r : α} (h : ¬ c) (e : Ev b r) : Ev (fun k => if c then a k else b k) r :=
  Ev.congr (fun _ => if_neg h) e
theorem evSplit {α : Type} {c : Prop} {dc : Decidable c} {a b : Nat → Option α} {r : α} (h : c → Ev a r) (h' : ¬ c → Ev b r) : Ev (fun k => if c then a k else b k) r := by
  by_cases hc : c
  · exact evPos hc (h hc)
  · exact evNeg hc (h' hc)
theorem evBind {α β : Type} {g : Nat → Option α} {f : Nat → α → Option β} {a : α} {r : β} (h : Ev g a) (k : Ev (fun n => f n a) r) : Ev (fun n => (g n).bind (f n)) r := Ev.bind h k
theorem evPut {α β : Type} {o : Option α} {f : Nat → α → Option β} {a : α} {r : β} (h : o = some a) (k : Ev (fun n => f n a) r) : Ev (fun n => o.bind (f n)) r :=
  Ev.congr (fun _ => by rw [h]; rfl) k
theorem evNow {α : Type} {r r' : α} (h : r = r') : Ev (fun _ => some r) r' := h ▸ Ev.now r
theorem evOf {α : Type} {o : Option α} {r : α} (h : o = some r) : Ev (fun _ => o) r := ⟨0, fun _ _ => h⟩
theorem evEnds {α : Type} {g : Nat → Option α} {r : α} (h : Ev g r) : ∃ k, g k = some r := Ev.rounds h
theorem w64 {x : Int} (h : -9223372036854775808 ≤ x) (h' : x ≤ 9223372036854775807) : wrap64 x = x := by unfold wrap64; omega
theorem w64succ (i : Nat) (h : i < 4611686018427387904) : wrap64 ((i : Int) + 1) = ((i + 1 : Nat) : Int) := by unfold wrap64; omega
theorem wfI {x : Int} (h : (Lit.int .i64 x).wf = true) : -9223372036854775808 ≤ x ∧ x ≤ 9223372036854775807 := by
  simp only [Lit.wf, IntKind.min, IntKind.max, IntKind.bits, IntKind.signed, Bool.and_eq_true, decide_eq_true_eq] at h
  simpa using h
theorem wfB {x : Int} (h : (Lit.int .u8 x).wf = true) : 0 ≤ x ∧ x ≤ 255 := by
  simp only [Lit.wf, IntKind.min, IntKind.max, IntKind.bits, IntKind.signed, Bool.and_eq_true, decide_eq_true_eq] at h
  simpa using h
theorem rdN (l : List Int) (i : Nat) (h : i < l.length) : rd l (i : Int) = l[i] := by simp [rd, List.getD_eq_getElem?_getD, h]
theorem fillStep {α : Type} (l : List α) (z : α) (i d : Nat) (h : i + (d + 1) = l.length) : (l.take i ++ List.replicate (d + 1) z).set i (l[i]'(by omega)) = l.take (i + 1) ++ List.replicate d z := by
  rw [List.set_append_right _ _ (by simp; omega), List.take_succ_eq_append_getElem (show i < l.length by omega), List.append_assoc]
  congr 1
  have e : i - (l.take i).length = 0 := by simp; omega
  rw [e]
  rfl
theorem evCast {α : Type} {g : Nat → Option α} {r r' : α} (h : Ev g r') (e : r' = r) : Ev g r := e ▸ h

def varP (v : Int) : Bool := decide (0 ≤ v ∧ v ≤ 4611686018427387903)
theorem varI (v : Int) : impl_inVar.f v = some (varP v) := by
  unfold impl_inVar.f varP
  by_cases h : 0 ≤ v
  · rw [if_pos h]; simp [h]
  · rw [if_neg h]; simp [h]

/-! ### a number laid into bytes, the high one first -/
def digits (v : Int) : Nat → List Int
  | 0 => []
  | n + 1 => digits (v / 256) n ++ [v % 256]
theorem digits_length : ∀ (n : Nat) (v : Int), (digits v n).length = n
  | 0, _ => rfl
  | n + 1, v => by simp [digits, digits_length n]
theorem digits_top : ∀ (n : Nat) (v : Int), digits v (n + 1) = (v / 256 ^ n % 256) :: digits v n
  | 0, v => by simp [digits]
  | n + 1, v => by
    have e : digits v (n + 1 + 1) = digits (v / 256) (n + 1) ++ [v % 256] := rfl
    rw [e, digits_top n (v / 256), Int.ediv_ediv_of_nonneg (by decide), ← Int.pow_succ']
    rfl
theorem digits_byte : ∀ (n : Nat) (v : Int), ∀ x ∈ digits v n, 0 ≤ x ∧ x ≤ 255
  | 0, _, x, h => by simp [digits] at h
  | n + 1, v, x, h => by
    simp only [digits, List.mem_append, List.mem_singleton] at h
    rcases h with h | h
    · exact digits_byte n _ x h
    · omega
theorem digS : ∀ (n : Nat) (v : Int), n ≤ 1000 → 0 ≤ v → v ≤ 9223372036854775807 → Ev (fun k => spec_l01Digits.f k v (n : Int)) (digits v n) := by
  intro n
  induction n with
  | zero =>
    intro v _ _ _
    refine evSucc ?_
    simp only [spec_l01Digits.f]
    exact evPos (by omega) (Ev.now _)
  | succ n ih =>
    intro v hn h0 h1
    refine evSucc ?_
    simp only [spec_l01Digits.f]
    refine evNeg (by omega) ?_
    rw [Int.tdiv_eq_ediv_of_nonneg h0, Int.tmod_eq_emod_of_nonneg h0, w64 (x := v / 256) (by omega) (by omega), w64 (x := ((n + 1 : Nat) : Int) - 1) (by omega) (by omega), show ((n + 1 : Nat) : Int) - 1 = (n : Int) by omega]
    refine evBind (ih (v / 256) (by omega) (by omega) (by omega)) (evPos (by rw [digits_length]; omega) (evNow ?_))
    rw [Int.emod_emod]
    rfl
theorem u64N (x : Int) (h0 : 0 ≤ x) (h1 : x ≤ 9223372036854775807) : IntKind.u64.wrap x = x := by
  have : IntKind.u64.wrap x = x % 18446744073709551616 := by simp [IntKind.wrap, IntKind.bits, IntKind.signed]
  rw [this]; omega
theorem shr8 (x : Int) (n : Nat) (hn : n ≤ 7) : shr .u64 x (8 * (n : Int)) = x / 256 ^ n := by
  unfold shr
  have e : min (8 * (n : Int)).toNat IntKind.u64.bits = 8 * n := by simp only [IntKind.bits]; omega
  rw [e, Int.pow_mul]
  rfl
theorem fixI : ∀ (n : Nat) (l : List Int) (v : Int), n ≤ 8 → l.length + n ≤ 100000008 → 0 ≤ v → v ≤ 9223372036854775807 → Ev (fun k => impl_fixed.l0 k l v ((n : Int) - 1)) (l ++ digits v n) := by
  intro n
  induction n with
  | zero =>
    intro l v _ _ _ _
    refine evSucc ?_
    simp only [impl_fixed.l0]
    refine evNeg (by omega) (evNow ?_)
    simp [digits]
  | succ n ih =>
    intro l v hn hl h0 h1
    refine evSucc ?_
    simp only [impl_fixed.l0]
    rw [show ((n + 1 : Nat) : Int) - 1 = (n : Int) by omega, w64 (x := 8 * (n : Int)) (by omega) (by omega), w64 (x := (n : Int) - 1) (by omega) (by omega), u64N v h0 h1, shr8 v n (by omega)]
    refine evPos (by omega) (evPos (by omega) (evPos (by omega) ?_))
    have e : l ++ digits v (n + 1) = (l ++ [v / 256 ^ n % 256]) ++ digits v n := by rw [digits_top]; simp
    rw [e]
    exact ih _ v (by omega) (by simp; omega) h0 h1
theorem fixF (n : Nat) (l : List Int) (v : Int) (hn : n ≤ 8) (hl : l.length ≤ 1000000) (h0 : 0 ≤ v) (h1 : v ≤ 9223372036854775807) : Ev (fun k => impl_fixed.f k l v (n : Int)) (l ++ digits v n) := by
  unfold impl_fixed.f
  rw [w64 (x := (n : Int) - 1) (by omega) (by omega)]
  exact fixI n l v hn (by omega) h0 h1

theorem bitsOrComm (k : IntKind) (x y : Int) : Go.bits .or k x y = Go.bits .or k y x := by
  simp only [Go.bits]; rw [BitVec.or_comm]

/-! ### a number in its shortest form -/
def vlen (v : Int) : Nat := if v < 64 then 1 else if v < 16384 then 2 else if v < 1073741824 then 4 else 8
def vmark (n : Nat) : Int := if n = 2 then 64 else if n = 4 then 128 else if n = 8 then 192 else 0
def encV (v : Int) : List Int := (digits v (vlen v)).set 0 (rd (digits v (vlen v)) 0 + vmark (vlen v))
theorem vlen_le (v : Int) : 1 ≤ vlen v ∧ vlen v ≤ 8 := by unfold vlen; split <;> (try split) <;> (try split) <;> omega
theorem encV_length (v : Int) : (encV v).length = vlen v := by unfold encV; rw [List.length_set, digits_length]
theorem encV_le (v : Int) : (encV v).length ≤ 8 := by rw [encV_length]; exact (vlen_le v).2
theorem orMark (d m : Int) (h0 : 0 ≤ d) (h1 : d < 64) (hm : m = 0 ∨ m = 64 ∨ m = 128 ∨ m = 192) : Go.bits .or .u8 d m = d + m := by
  rw [bitsOrComm, Int.add_comm]
  exact bits_join .u8 8 (by decide) (fun n h h' => by rw [IntKind.wrap_u8]; omega) 6 m d (by omega) (by omega) (by omega) h0 (by omega) (by omega)
theorem vcase (v : Int) (h0 : 0 ≤ v) (h1 : v ≤ 4611686018427387903) : ∃ n : Nat, vlen v = n + 1 ∧ v / 256 ^ n % 256 < 64 ∧ (n = 0 ∨ n = 1 ∨ n = 3 ∨ n = 7) ∧ digits v (vlen v) = (v / 256 ^ n % 256) :: digits v n := by
  by_cases h2 : v < 64
  · exact ⟨0, by simp [vlen, h2], by simp only [Int.pow_zero]; omega, .inl rfl, by rw [show vlen v = 0 + 1 by simp [vlen, h2]]; exact digits_top 0 v⟩
  by_cases h3 : v < 16384
  · exact ⟨1, by simp [vlen, h2, h3], by simp only [Int.pow_succ, Int.pow_zero]; omega, .inr (.inl rfl), by rw [show vlen v = 1 + 1 by simp [vlen, h2, h3]]; exact digits_top 1 v⟩
  by_cases h4 : v < 1073741824
  · exact ⟨3, by simp [vlen, h2, h3, h4], by simp only [Int.pow_succ, Int.pow_zero]; omega, .inr (.inr (.inl rfl)), by rw [show vlen v = 3 + 1 by simp [vlen, h2, h3, h4]]; exact digits_top 3 v⟩
  · exact ⟨7, by simp [vlen, h2, h3, h4], by simp only [Int.pow_succ, Int.pow_zero]; omega, .inr (.inr (.inr rfl)), by rw [show vlen v = 7 + 1 by simp [vlen, h2, h3, h4]]; exact digits_top 7 v⟩
theorem vlenI (v : Int) (h0 : 0 ≤ v) (h1 : v ≤ 4611686018427387903) : impl_VarLen.f v = some ((vlen v : Nat) : Int) := by
  unfold impl_VarLen.f
  rw [varI, show varP v = true from decide_eq_true ⟨h0, h1⟩]
  simp only [Option.bind_some, if_true, vlen]
  split <;> (try split) <;> (try split) <;> rfl
theorem vlenS (v : Int) (h0 : 0 ≤ v) (h1 : v ≤ 4611686018427387903) : Ev (fun k => spec_VarLen.f k v) ((vlen v : Nat) : Int) := by
  unfold spec_VarLen.f
  refine evNeg (by omega) ?_
  rw [decide_eq_false (show ¬ v > 4611686018427387903 by omega)]
  refine evSucc ?_
  simp only [spec_VarLen.j0]
  unfold vlen
  refine evNeg (by simp) (evSplit (fun h => evNow ?_) (fun h => evSplit (fun h2 => evNow ?_) (fun h2 => evSplit (fun h3 => evNow ?_) (fun h3 => evNow ?_))))
  · rw [if_pos (by omega)]; rfl
  · rw [if_neg (by omega), if_pos (by omega)]; rfl
  · rw [if_neg (by omega), if_neg (by omega), if_pos (by omega)]; rfl
  · rw [if_neg (by omega), if_neg (by omega), if_neg (by omega)]; rfl
theorem addV (l : List Int) (v : Int) (hl : l.length ≤ 1000000) (h0 : 0 ≤ v) (h1 : v ≤ 4611686018427387903) : Ev (fun k => impl_addVar.f k l v) (l ++ encV v) := by
  obtain ⟨n, hn, hd, hc, he⟩ := vcase v h0 h1
  unfold impl_addVar.f
  refine evPut (vlenI v h0 h1) (evBind (fixF (vlen v) l v (vlen_le v).2 hl h0 (by omega)) ?_)
  have hlen := digits_length (vlen v) v
  refine evPos ⟨by rw [List.length_append, hlen]; omega, by rw [hn]; omega⟩ (evNow ?_)
  have hr : rd (l ++ digits v (vlen v)) (l.length : Int) = v / 256 ^ n % 256 := by
    rw [he]; simp [rd, List.getD_eq_getElem?_getD]
  have hm : impl_addVar.mark ((vlen v : Nat) : Int) = vmark (vlen v) := by
    rw [hn]
    rcases hc with rfl | rfl | rfl | rfl <;> decide
  have hr2 : rd (digits v (vlen v)) 0 = v / 256 ^ n % 256 := by rw [he]; rfl
  rw [hr, hm, orMark _ _ (by omega) hd (by rw [hn]; rcases hc with rfl | rfl | rfl | rfl <;> decide), encV, hr2]
  rw [List.set_append_right _ _ (Nat.le_refl _), Nat.sub_self]
theorem putV_loop (n : Nat) (x : List Int) (hx : 0 < x.length) (hn : n = 1 ∨ n = 2 ∨ n = 4 ∨ n = 8) (hd : 0 ≤ rd x 0) (hd1 : rd x 0 < 64) : Ev (fun k => spec_PutVar.l0 k (n : Int) x 0 1) (x.set 0 (rd x 0 + vmark n), 0) := by
  have stop : ∀ (m c : Int), ¬ c < (n : Int) → (0 : Int) ≤ m → m ≤ 3 → 64 * m = vmark n → Ev (fun k => spec_PutVar.l0 k (n : Int) x m c) (x.set 0 (rd x 0 + vmark n), 0) := by
    intro m c hc h0 h1 hm
    refine evSucc ?_
    simp only [spec_PutVar.l0]
    refine evNeg hc (evPos (by omega) (evNow ?_))
    rw [w64 (x := 64 * m) (by omega) (by omega), ← hm, show (rd x 0 + 64 * m % 256) % 256 = rd x 0 + 64 * m by omega]
    rfl
  have go : ∀ (m c : Int), c < (n : Int) → (0 : Int) ≤ m → m ≤ 3 → 0 ≤ c → c ≤ 100 → Ev (fun k => spec_PutVar.l0 k (n : Int) x (m + 1) (2 * c)) (x.set 0 (rd x 0 + vmark n), 0) → Ev (fun k => spec_PutVar.l0 k (n : Int) x m c) (x.set 0 (rd x 0 + vmark n), 0) := by
    intro m c hc h0 h1 h2 h3 h
    refine evSucc ?_
    simp only [spec_PutVar.l0]
    rw [w64 (x := m + 1) (by omega) (by omega), w64 (x := 2 * c) (by omega) (by omega)]
    exact evPos hc h
  rcases hn with rfl | rfl | rfl | rfl
  · exact stop 0 1 (by omega) (by omega) (by omega) (by decide)
  · exact go 0 1 (by omega) (by omega) (by omega) (by omega) (by omega) (stop 1 2 (by omega) (by omega) (by omega) (by decide))
  · exact go 0 1 (by omega) (by omega) (by omega) (by omega) (by omega) (go 1 2 (by omega) (by omega) (by omega) (by omega) (by omega) (stop 2 4 (by omega) (by omega) (by omega) (by decide)))
  · exact go 0 1 (by omega) (by omega) (by omega) (by omega) (by omega) (go 1 2 (by omega) (by omega) (by omega) (by omega) (by omega) (go 2 4 (by omega) (by omega) (by omega) (by omega) (by omega) (stop 3 8 (by omega) (by omega) (by omega) (by decide))))
theorem putV (v : Int) (h0 : 0 ≤ v) (h1 : v ≤ 4611686018427387903) : Ev (fun k => spec_PutVar.f k v) (encV v, 0) := by
  obtain ⟨n, hn, hd, hc, he⟩ := vcase v h0 h1
  have hr2 : rd (digits v (vlen v)) 0 = v / 256 ^ n % 256 := by rw [he]; rfl
  unfold spec_PutVar.f
  refine evBind (vlenS v h0 h1) (evNeg (by have := (vlen_le v).1; omega) (evBind (digS (vlen v) v (by have := (vlen_le v).2; omega) h0 (by omega)) ?_))
  exact putV_loop (vlen v) _ (by rw [digits_length]; exact (vlen_le v).1) (by rw [hn]; omega) (by rw [hr2]; omega) (by rw [hr2]; exact hd)

/-! ### a number out of its bytes -/
theorem stepU (a b : Int) (h0 : 0 ≤ a) (h1 : a ≤ 72057594037927935) (h2 : 0 ≤ b) (h3 : b ≤ 255) : Go.bits .or .u64 (IntKind.u64.wrap (a * 256)) (IntKind.u64.wrap b) = a * 256 + b := by
  have wr : ∀ n : Int, IntKind.u64.wrap n = n % 18446744073709551616 := fun n => by simp [IntKind.wrap, IntKind.bits, IntKind.signed]
  rw [wr (a * 256), wr b, Int.emod_eq_of_lt (by omega) (by omega), Int.emod_eq_of_lt (by omega) (by omega)]
  exact bits_join .u64 64 (by decide) (fun n h h' => by rw [wr]; omega) 8 (a * 256) b (by omega) (by omega) (by omega) h2 (by omega) (by omega)
theorem unfStep (l : List Int) (i : Nat) (a x r : Int) (hi : i < l.length) (hl : l.length ≤ 1000) (hx : rd l (i : Int) = x) (h0 : 0 ≤ a) (h1 : a ≤ 72057594037927935) (h2 : 0 ≤ x) (h3 : x ≤ 255)
    (h : Ev (fun k => impl_unfixed.l0 k (a * 256 + x) l (l.length : Int) ((i + 1 : Nat) : Int)) r) : Ev (fun k => impl_unfixed.l0 k a l (l.length : Int) (i : Int)) r := by
  refine evSucc ?_
  simp only [impl_unfixed.l0]
  refine evPos (by omega) (evPos (by omega) (evPos (by omega) ?_))
  rw [hx, stepU a x h0 h1 h2 h3, w64succ i (by omega)]
  exact h
theorem pow256le (k : Nat) (h : k ≤ 7) : (256 : Int) ^ k ≤ 72057594037927936 := by
  have h1 : (256 : Nat) ^ k ≤ 256 ^ 7 := Nat.pow_le_pow_right (by decide) h
  have e : (256 : Nat) ^ 7 = 72057594037927936 := by decide
  rw [e] at h1
  have h2 := Int.ofNat_le.2 h1
  rw [Int.natCast_pow] at h2
  exact h2
def valL (a : Int) (l : List Int) : Int := l.foldl (fun a b => a * 256 + b) a
theorem unfG (l : List Int) (hl : l.length ≤ 8) (hb : ∀ x ∈ l, 0 ≤ x ∧ x ≤ 255) : ∀ (q i : Nat) (a : Int), i + q = l.length → 0 ≤ a → a < 256 ^ i → Ev (fun k => impl_unfixed.l0 k a l (l.length : Int) (i : Int)) (wrap64 (valL a (l.drop i))) := by
  intro q
  induction q with
  | zero =>
    intro i a h _ _
    refine evSucc ?_
    simp only [impl_unfixed.l0]
    refine evNeg (by omega) (evNow ?_)
    rw [List.drop_of_length_le (by omega)]
    rfl
  | succ q ih =>
    intro i a h h0 h1
    have hi : i < l.length := by omega
    have hx := hb _ (List.getElem_mem hi)
    have hp := pow256le i (by omega)
    refine unfStep l i a l[i] _ hi (by omega) (rdN l i hi) h0 (by omega) hx.1 hx.2 ?_
    rw [List.drop_eq_getElem_cons hi]
    exact ih (i + 1) (a * 256 + l[i]) (by omega) (by omega) (by rw [Int.pow_succ]; omega)
theorem unfF (l : List Int) (hl : l.length ≤ 8) (hb : ∀ x ∈ l, 0 ≤ x ∧ x ≤ 255) : Ev (fun k => impl_unfixed.f k l) (wrap64 (valL 0 l)) := by
  unfold impl_unfixed.f
  exact unfG l hl hb l.length 0 0 (by omega) (by omega) (by simp)
theorem modTop (n : Nat) (v : Int) : v % 256 ^ (n + 1) = v / 256 ^ n % 256 * 256 ^ n + v % 256 ^ n := by
  have hp : (0 : Int) < 256 ^ n := Int.pow_pos (by decide)
  rw [Int.pow_succ]
  generalize (256 : Int) ^ n = p at hp
  have h1 := Int.mul_ediv_add_emod v (p * 256)
  have h2 := Int.mul_ediv_add_emod v p
  have h3 := Int.mul_ediv_add_emod (v / p) 256
  rw [← Int.ediv_ediv_of_nonneg (by omega : (0 : Int) ≤ p)] at h1
  generalize v / p / 256 = q at h1 h3
  generalize v / p % 256 = d at h3 ⊢
  generalize v % p = r at h2 ⊢
  generalize v % (p * 256) = R at h1 ⊢
  rw [← h3, Int.mul_add, ← Int.mul_assoc] at h2
  rw [Int.mul_comm d p]
  generalize p * 256 * q = A at h1 h2
  omega
theorem valD : ∀ (n : Nat) (a v : Int), valL a (digits v n) = a * 256 ^ n + v % 256 ^ n
  | 0, a, v => by simp [digits, valL]
  | n + 1, a, v => by
    rw [digits_top]
    show valL (a * 256 + v / 256 ^ n % 256) (digits v n) = _
    rw [valD n, modTop, Int.pow_succ, Int.add_mul, Int.mul_assoc a, Int.mul_comm 256, Int.add_assoc]

/-! ### a number is read back -/
theorem evGuess {α : Type} {g : Nat → Option α} {r r' : α} (h : Ev g r') (e : r' = r) : Ev g r := e ▸ h
theorem bitsNeg (v : Int) (h0 : 0 ≤ v) (h1 : v ≤ 4611686018427387903) : Go.bits .and .i64 (v - 4611686018427387904) 4611686018427387903 = v := by
  have wr : ∀ n : Int, IntKind.u64.wrap n = n % 18446744073709551616 := fun n => by simp [IntKind.wrap, IntKind.bits, IntKind.signed]
  have u := bits_mask .u64 64 (by decide) (fun n h h' => by rw [wr]; omega) 62 (by decide) (v + 13835058055282163712) (by omega) (by omega)
  have e : BitVec.ofInt 64 (v - 4611686018427387904) = BitVec.ofInt 64 (v + 13835058055282163712) := by
    apply BitVec.eq_of_toNat_eq
    simp only [BitVec.toNat_ofInt]
    congr 1
    omega
  have s : (2 : Int) ^ 62 - 1 = 4611686018427387903 := by decide
  rw [s] at u
  have u2 : IntKind.u64.wrap (((BitVec.ofInt 64 (v + 13835058055282163712) &&& BitVec.ofInt 64 4611686018427387903).toNat : Nat) : Int) = (v + 13835058055282163712) % 2 ^ 62 := u
  show IntKind.i64.wrap (((BitVec.ofInt 64 (v - 4611686018427387904) &&& BitVec.ofInt 64 4611686018427387903).toNat : Nat) : Int) = v
  rw [e]
  have hlt := (BitVec.ofInt 64 (v + 13835058055282163712) &&& BitVec.ofInt 64 4611686018427387903).isLt
  generalize (BitVec.ofInt 64 (v + 13835058055282163712) &&& BitVec.ofInt 64 4611686018427387903).toNat = N at u2 hlt
  rw [wr] at u2
  rw [IntKind.wrap_i64]
  omega
theorem andI (x : Int) (i : Nat) (hi : i ≤ 63) (h0 : 0 ≤ x) (h1 : x ≤ 9223372036854775807) : Go.bits .and .i64 x (2 ^ i - 1) = x % 2 ^ i :=
  bits_mask .i64 63 (by decide) (fun n h h' => by rw [IntKind.wrap_i64]; omega) i hi x h0 (by omega)
theorem shl64 (x : Int) (n : Nat) (hn : n ≤ 64) : shl .i64 x (n : Int) = wrap64 (x * 2 ^ n) := by
  unfold shl
  rw [IntKind.wrap_i64, Int.toNat_natCast, Nat.min_eq_left (by simpa [IntKind.bits] using hn)]
  unfold wrap64; rfl
theorem sh1 (q : Nat) (h : q ≤ 3) : shl .i64 1 (q : Int) = ((2 ^ q : Nat) : Int) := by
  rw [shl64 1 _ (by omega), Int.one_mul]
  have hq : q = 0 ∨ q = 1 ∨ q = 2 ∨ q = 3 := by omega
  rcases hq with rfl | rfl | rfl | rfl <;> (rw [w64 (by decide) (by decide)]; decide)
theorem vbound (v : Int) (n : Nat) (h1 : v ≤ 4611686018427387903) (hn : vlen v = n + 1) : v < 64 * 256 ^ n := by
  unfold vlen at hn
  by_cases h2 : v < 64
  · simp only [h2, if_true] at hn
    obtain rfl : n = 0 := by omega
    simpa using h2
  by_cases h3 : v < 16384
  · simp only [h2, h3, if_true, if_false] at hn
    obtain rfl : n = 1 := by omega
    simpa using h3
  by_cases h4 : v < 1073741824
  · simp only [h2, h3, h4, if_true, if_false] at hn
    obtain rfl : n = 3 := by omega
    simpa using h4
  · simp only [h2, h3, h4, if_false] at hn
    obtain rfl : n = 7 := by omega
    have : (64 : Int) * 256 ^ 7 = 4611686018427387904 := by decide
    omega
/-- What stands in the first byte above the number's own digits. -/
def vq (n : Nat) : Nat := if n = 0 then 0 else if n = 1 then 1 else if n = 3 then 2 else 3
theorem encV_cons (v : Int) (n : Nat) (hn : vlen v = n + 1) (he : digits v (vlen v) = (v / 256 ^ n % 256) :: digits v n) : encV v = (v / 256 ^ n % 256 + vmark (n + 1)) :: digits v n := by
  unfold encV
  rw [he, hn]
  rfl
theorem vmark_q (n : Nat) (hc : n = 0 ∨ n = 1 ∨ n = 3 ∨ n = 7) : vmark (n + 1) = 64 * (vq n : Int) ∧ vq n ≤ 3 ∧ 2 ^ vq n = n + 1 := by
  rcases hc with rfl | rfl | rfl | rfl <;> decide
theorem encV_byte (v : Int) (h0 : 0 ≤ v) (h1 : v ≤ 4611686018427387903) : ∀ x ∈ encV v, 0 ≤ x ∧ x ≤ 255 := by
  obtain ⟨n, hn, hd, hc, he⟩ := vcase v h0 h1
  rw [encV_cons v n hn he]
  intro x hx
  obtain ⟨e1, e2, _⟩ := vmark_q n hc
  rcases List.mem_cons.1 hx with rfl | hx
  · omega
  · exact digits_byte n v x hx
theorem maskE (n m : Nat) (hm : 8 * n + 6 = m) (h : m ≤ 62) : wrap64 (shl .i64 1 (wrap64 (wrap64 (8 * ((n + 1 : Nat) : Int)) - 2)) - 1) = 2 ^ m - 1 := by
  have h1 : (2 : Nat) ^ m ≤ 2 ^ 62 := Nat.pow_le_pow_right (by decide) h
  have h0 : 1 ≤ (2 : Nat) ^ m := Nat.one_le_two_pow
  have e : (2 : Nat) ^ 62 = 4611686018427387904 := by decide
  rw [e] at h1
  have h2 := Int.ofNat_le.2 h1
  have h3 := Int.ofNat_le.2 h0
  rw [Int.natCast_pow] at h2 h3
  rw [w64 (x := 8 * ((n + 1 : Nat) : Int)) (by omega) (by omega), w64 (x := 8 * ((n + 1 : Nat) : Int) - 2) (by omega) (by omega), show 8 * ((n + 1 : Nat) : Int) - 2 = (m : Int) by omega, shl64 1 m (by omega), Int.one_mul]
  generalize hp : (2 : Int) ^ m = p
  have h2 : p ≤ 4611686018427387904 := hp ▸ h2
  have h3 : 1 ≤ p := hp ▸ h3
  rw [w64 (x := p) (by omega) (by omega), w64 (x := p - 1) (by omega) (by omega)]
theorem maskV (v : Int) (n : Nat) (h0 : 0 ≤ v) (h1 : v ≤ 4611686018427387903) (hn : vlen v = n + 1) (hc : n = 0 ∨ n = 1 ∨ n = 3 ∨ n = 7) :
    Go.bits .and .i64 (wrap64 (v + vmark (n + 1) * 256 ^ n)) (wrap64 (shl .i64 1 (wrap64 (wrap64 (8 * ((n + 1 : Nat) : Int)) - 2)) - 1)) = v := by
  have hv := vbound v n h1 hn
  rcases hc with rfl | rfl | rfl | rfl
  · have e : wrap64 (shl .i64 1 (wrap64 (wrap64 (8 * ((0 + 1 : Nat) : Int)) - 2)) - 1) = 2 ^ 6 - 1 := maskE 0 6 rfl (by decide)
    have m : vmark (0 + 1) * 256 ^ 0 = 0 := by decide
    rw [e, m, w64 (by omega) (by omega), andI _ 6 (by omega) (by omega) (by omega)]
    omega
  · have e : wrap64 (shl .i64 1 (wrap64 (wrap64 (8 * ((1 + 1 : Nat) : Int)) - 2)) - 1) = 2 ^ 14 - 1 := maskE 1 14 rfl (by decide)
    have m : vmark (1 + 1) * 256 ^ 1 = 16384 := by decide
    rw [e, m, w64 (by omega) (by omega), andI _ 14 (by omega) (by omega) (by omega)]
    omega
  · have e : wrap64 (shl .i64 1 (wrap64 (wrap64 (8 * ((3 + 1 : Nat) : Int)) - 2)) - 1) = 2 ^ 30 - 1 := maskE 3 30 rfl (by decide)
    have m : vmark (3 + 1) * 256 ^ 3 = 2147483648 := by decide
    have b : (64 : Int) * 256 ^ 3 = 1073741824 := by decide
    rw [e, m, w64 (by omega) (by omega), andI _ 30 (by omega) (by omega) (by omega)]
    omega
  · have e : wrap64 (shl .i64 1 (wrap64 (wrap64 (8 * ((7 + 1 : Nat) : Int)) - 2)) - 1) = 4611686018427387903 := (maskE 7 62 rfl (by decide)).trans (by decide)
    have m : vmark (7 + 1) * 256 ^ 7 = 13835058055282163712 := by decide
    have w : wrap64 (v + 13835058055282163712) = v - 4611686018427387904 := by unfold wrap64; omega
    rw [e, m, w]
    exact bitsNeg v h0 h1
theorem valV (v : Int) (n : Nat) (h0 : 0 ≤ v) (h1 : v ≤ 4611686018427387903) (hn : vlen v = n + 1) (he : digits v (vlen v) = (v / 256 ^ n % 256) :: digits v n) : valL 0 (encV v) = v + vmark (n + 1) * 256 ^ n := by
  have hb := vbound v n h1 hn
  have hp : (0 : Int) < 256 ^ n := Int.pow_pos (by decide)
  have ht := modTop n v
  rw [Int.emod_eq_of_lt h0 (by rw [Int.pow_succ]; omega)] at ht
  rw [encV_cons v n hn he]
  show valL (0 * 256 + (v / 256 ^ n % 256 + vmark (n + 1))) (digits v n) = _
  rw [valD, Int.zero_mul, Int.zero_add, Int.add_mul]
  generalize v / 256 ^ n % 256 * 256 ^ n = A at ht
  generalize vmark (n + 1) * 256 ^ n = B
  omega
theorem cutMid (pre x post : List Int) : ((pre ++ x ++ post).take (pre.length + x.length)).drop pre.length = x := by
  rw [← List.length_append, List.take_left, List.drop_left]
theorem rdMid (X : List Int) (x : Int) (r : List Int) : rd (X ++ x :: r) (X.length : Int) = x := by simp [rd, List.getD_eq_getElem?_getD]
theorem getOk (pre post : List Int) (v : Int) (h0 : 0 ≤ v) (h1 : v ≤ 4611686018427387903) (hlen : (pre ++ encV v ++ post).length ≤ 65536) :
    Ev (fun k => impl_GetVar.f k (pre ++ encV v ++ post) (pre.length : Int)) (v, ((pre.length + vlen v : Nat) : Int), 0) := by
  obtain ⟨n, hn, hd, hc, he⟩ := vcase v h0 h1
  obtain ⟨m1, m2, m3⟩ := vmark_q n hc
  have hE := encV_cons v n hn he
  have hL : (pre ++ encV v ++ post).length = pre.length + (n + 1) + post.length := by rw [List.length_append, List.length_append, encV_length, hn]
  have hr : rd (pre ++ encV v ++ post) (pre.length : Int) = v / 256 ^ n % 256 + vmark (n + 1) := by
    rw [hE]; simp [rd, List.getD_eq_getElem?_getD]
  have hcut := cutMid pre (encV v) post
  rw [encV_length, hn] at hcut
  generalize pre ++ encV v ++ post = b at hlen hL hr hcut
  have hq : rd b (pre.length : Int) / 64 = (vq n : Int) := by rw [hr]; omega
  have hs : shl .i64 1 (vq n : Int) = ((n + 1 : Nat) : Int) := by
    rw [sh1 _ m2, m3]
  have hn7 : n ≤ 7 := by omega
  unfold impl_GetVar.f
  refine evPut rfl (evNeg (by simp; omega) (evNeg (by omega) ?_))
  rw [decide_eq_false (show ¬ (pre.length : Int) > (b.length : Int) by omega)]
  refine evSucc ?_
  simp only [impl_GetVar.j0]
  rw [hq, hs, w64 (x := (b.length : Int) - (pre.length : Int)) (by omega) (by omega), w64 (x := (pre.length : Int) + ((n + 1 : Nat) : Int)) (by omega) (by omega)]
  refine evNeg (by simp) (evNeg (by omega) (evPos (by omega) (evPos (by omega) (evPos (by omega) (evNeg (by omega) (evPos (by omega) (evPos (by omega) ?_)))))))
  rw [show ((pre.length : Int) + ((n + 1 : Nat) : Int)).toNat = pre.length + (n + 1) by omega, Int.toNat_natCast, hcut]
  refine evBind (unfF _ (by rw [encV_length, hn]; omega) (encV_byte v h0 h1)) ?_
  refine evPos (by rw [w64 (x := 8 * ((n + 1 : Nat) : Int)) (by omega) (by omega), w64 (by omega) (by omega)]; omega) (evNow ?_)
  rw [valV v n h0 h1 hn he, maskV v n h0 h1 hn hc, hn]
  rfl
theorem getShort (b : List Int) (at_ q : Nat) (hlen : b.length ≤ 65536) (ha : at_ ≤ b.length) (h : at_ < b.length → 0 ≤ rd b (at_ : Int) ∧ rd b (at_ : Int) / 64 = (q : Int) ∧ q ≤ 3 ∧ b.length < at_ + 2 ^ q) : Ev (fun k => impl_GetVar.f k b (at_ : Int)) (0, 0, 2) := by
  unfold impl_GetVar.f
  refine evPut rfl (evNeg (by simp; omega) (evNeg (by omega) ?_))
  rw [decide_eq_false (show ¬ (at_ : Int) > (b.length : Int) by omega)]
  refine evSucc ?_
  simp only [impl_GetVar.j0]
  refine evNeg (by simp) (evSplit (fun _ => Ev.now _) (fun hne => ?_))
  obtain ⟨g0, g1, g2, g3⟩ := h (by omega)
  have hs := sh1 q g2
  rw [g1, hs, w64 (x := (b.length : Int) - (at_ : Int)) (by omega) (by omega)]
  exact evPos (by omega) (evPos (by omega) (evPos (by omega) (evPos (by omega) (Ev.now _))))
theorem nextOk (pre post : List Int) (v : Int) (h0 : 0 ≤ v) (h1 : v ≤ 4611686018427387903) (hlen : (pre ++ encV v ++ post).length ≤ 65536) :
    Ev (fun k => impl_GetVars.next k (pre ++ encV v ++ post) (pre.length : Int)) (v, true, (((pre ++ encV v).length : Nat) : Int)) := by
  unfold impl_GetVars.next
  refine evBind (getOk pre post v h0 h1 hlen) (evPos rfl (evPut (vlenI v h0 h1) (evPos ?_ (evNow ?_))))
  · simp only [List.length_append, encV_length] at hlen ⊢
    rw [w64 (by omega) (by omega)]; omega
  · rw [List.length_append, encV_length]
theorem nextShort (b : List Int) (at_ q : Nat) (hlen : b.length ≤ 65536) (ha : at_ ≤ b.length) (h : at_ < b.length → 0 ≤ rd b (at_ : Int) ∧ rd b (at_ : Int) / 64 = (q : Int) ∧ q ≤ 3 ∧ b.length < at_ + 2 ^ q) : Ev (fun k => impl_GetVars.next k b (at_ : Int)) (0, false, (at_ : Int)) := by
  unfold impl_GetVars.next
  exact evBind (getShort b at_ q hlen ha h) (evNeg (by decide) (Ev.now _))
def encs : List Int → List Int
  | [] => []
  | x :: l => encV x ++ encs l
theorem encs_le (l : List Int) : (encs l).length ≤ 8 * l.length := by
  induction l with
  | nil => simp [encs]
  | cons x l ih => have h1 := encV_le x; simp only [encs, List.length_append, List.length_cons]; omega
theorem encs_snoc (l : List Int) (x : Int) : encs (l ++ [x]) = encs l ++ encV x := by
  induction l with
  | nil => simp [encs]
  | cons y l ih => simp [encs, ih]
theorem goRun : ∀ (xs pre post out : List Int) (d : Nat) (r : List Int × Int), (∀ x ∈ xs, varP x = true) → (pre ++ encs xs ++ post).length ≤ 65536 → out.length + xs.length ≤ 5000 →
    Ev (fun k => impl_GetVars.go k (pre ++ encs xs ++ post) d (((pre ++ encs xs).length : Nat) : Int) (out ++ xs)) r → Ev (fun k => impl_GetVars.go k (pre ++ encs xs ++ post) (xs.length + d) (pre.length : Int) out) r := by
  intro xs
  induction xs with
  | nil =>
    intro pre post out d r _ _ _ h
    simpa [encs] using h
  | cons x xs ih =>
    intro pre post out d r hv hlen ho h
    have h1 := of_decide_eq_true (hv x List.mem_cons_self)
    have e : pre ++ encs (x :: xs) ++ post = pre ++ encV x ++ (encs xs ++ post) := by simp [encs]
    have e2 : pre ++ encV x ++ (encs xs ++ post) = (pre ++ encV x) ++ encs xs ++ post := by simp
    have e3 : pre ++ encs (x :: xs) = (pre ++ encV x) ++ encs xs := by simp [encs]
    rw [e3] at h
    rw [e] at hlen ⊢
    rw [show (x :: xs).length + d = (xs.length + d) + 1 by simp; omega]
    simp only [impl_GetVars.go]
    simp only [List.length_cons] at ho
    refine evBind (nextOk pre (encs xs ++ post) x h1.1 h1.2 hlen) (evPos rfl (evPos (by omega) ?_))
    rw [e2] at hlen ⊢
    refine ih (pre ++ encV x) post (out ++ [x]) d r (fun y hy => hv y (List.mem_cons_of_mem _ hy)) hlen (by simp; omega) ?_
    simpa using h
theorem headRun (l post : List Int) (d : Nat) (n : Nat) (r : List Int × Int) (hn : n = l.length + d) (hn2 : n ≤ 4096) (hv : ∀ x ∈ l, varP x = true) (hlen : (encV n ++ encs l ++ post).length ≤ 65536)
    (h : Ev (fun k => impl_GetVars.go k (encV n ++ encs l ++ post) d (((encV n ++ encs l).length : Nat) : Int) l) r) : Ev (fun k => impl_GetVars.f k (encV n ++ encs l ++ post)) r := by
  unfold impl_GetVars.f
  refine evPut rfl (evNeg (by simp at hlen ⊢; omega) ?_)
  have hN := nextOk [] (encs l ++ post) (n : Int) (by omega) (by omega) (by simpa using hlen)
  simp only [List.nil_append, List.length_nil, ← List.append_assoc] at hN
  refine evBind hN (evPos rfl (evNeg (by simp only; omega) ?_))
  simp only [Int.toNat_natCast]
  have hR := goRun l (encV n) post [] d r hv hlen (by simp; omega) (by simpa using h)
  rw [hn]
  rw [hn] at hR
  exact hR
theorem getAll (l post : List Int) (hl : l.length ≤ 4096) (hv : ∀ x ∈ l, varP x = true) (hlen : (encV l.length ++ encs l ++ post).length ≤ 65536) : Ev (fun k => impl_GetVars.f k (encV l.length ++ encs l ++ post)) (if post = [] then (l, 0) else ([], 3)) := by
  refine headRun l post 0 l.length _ rfl hl hv hlen ?_
  simp only [impl_GetVars.go]
  by_cases hp : post = []
  · rw [if_pos hp]
    subst hp
    exact evPos (by simp) (Ev.now _)
  · rw [if_neg hp]
    have : post.length ≠ 0 := fun e => hp (List.length_eq_zero_iff.1 e)
    exact evNeg (by simp only [List.length_append]; omega) (Ev.now _)
theorem getLess (l : List Int) (hl : l.length ≤ 4096) (hv : ∀ x ∈ l, varP x = true) : Ev (fun k => impl_GetVars.f k ((encV l.length ++ encs l).take ((encV l.length ++ encs l).length - 1))) ([], 3) := by
  rcases List.eq_nil_or_concat l with rfl | ⟨l', y, rfl⟩
  · have e : (encV (([] : List Int).length : Nat) ++ encs []).take ((encV (([] : List Int).length : Nat) ++ encs []).length - 1) = [] := by decide
    rw [e]
    unfold impl_GetVars.f
    exact evPut rfl (evNeg (by simp) (evBind (nextShort [] 0 0 (by simp) (by simp) (by simp)) (evNeg (by decide) (Ev.now _))))
  · rw [List.concat_eq_append] at hl hv ⊢
    have hy := of_decide_eq_true (hv y (by simp))
    obtain ⟨n, hn, hd, hc, he⟩ := vcase y hy.1 hy.2
    obtain ⟨m1, m2, m3⟩ := vmark_q n hc
    have hE := encV_cons y n hn he
    have hlen1 := encV_length y
    have b1 := encs_le l'
    have b2 := encV_le ((l' ++ [y]).length : Int)
    have hl' : l'.length + 1 ≤ 4096 := by simpa using hl
    have e : (encV ((l' ++ [y]).length : Nat) ++ encs (l' ++ [y])).take ((encV ((l' ++ [y]).length : Nat) ++ encs (l' ++ [y])).length - 1) = encV ((l' ++ [y]).length : Nat) ++ encs l' ++ (encV y).take n := by
      rw [encs_snoc, ← List.append_assoc]
      have : ∀ X : List Int, (X ++ encV y).length - 1 = X.length + n := fun X => by rw [List.length_append, hlen1, hn]; omega
      rw [this, List.take_length_add_append]
    rw [e]
    have ht : ((encV y).take n).length = n := by rw [List.length_take, hlen1, hn]; omega
    refine headRun l' ((encV y).take n) 1 _ _ (by simp) (by simpa using hl) (fun x hx => hv x (by simp [hx])) (by rw [List.length_append, List.length_append, ht]; omega) ?_
    generalize hX : encV ((l' ++ [y]).length : Nat) ++ encs l' = X at b2 ⊢
    have hR : n ≠ 0 → rd (X ++ (encV y).take n) (X.length : Int) = y / 256 ^ n % 256 + vmark (n + 1) := by
      intro h0
      obtain ⟨j, hj⟩ : ∃ j, n = j + 1 := ⟨n - 1, by omega⟩
      rw [hE, show ((y / 256 ^ n % 256 + vmark (n + 1)) :: digits y n).take n = (y / 256 ^ n % 256 + vmark (n + 1)) :: (digits y n).take j by rw [hj]; rfl]
      exact rdMid X _ _
    have hXl : X.length ≤ 40000 := by rw [← hX, List.length_append]; omega
    simp only [impl_GetVars.go]
    refine evBind (nextShort _ X.length (vq n) (by rw [List.length_append, ht]; omega) (by rw [List.length_append]; omega) (fun h => ?_)) (evNeg (by simp) (Ev.now _))
    rw [List.length_append, ht] at h
    rw [hR (by omega), List.length_append, ht, m3]
    exact ⟨by omega, by omega, m2, by omega⟩

/-! ### the source of drawn choices -/
/-- A state of the source from which at least 'b' bytes more may be drawn. -/
structure Src (code : List Int) (b at_ seed : Int) : Prop where
  len : code.length ≤ 1048576
  byte : ∀ x ∈ code, 0 ≤ x ∧ x ≤ 255
  lo : 0 ≤ at_
  hi : at_ + b ≤ 100000000000
  s0 : 0 ≤ seed
  s1 : seed < 2147483648
theorem Src.less {code : List Int} {b b' at_ seed : Int} (h : Src code b at_ seed) (hb : b' ≤ b) : Src code b' at_ seed := ⟨h.len, h.byte, h.lo, by have := h.hi; omega, h.s0, h.s1⟩
theorem rdBy {b : List Int} (hb : ∀ x ∈ b, 0 ≤ x ∧ x ≤ 255) (i : Int) : 0 ≤ rd b i ∧ rd b i ≤ 255 := by
  unfold rd
  by_cases h : i.toNat < b.length
  · rw [List.getD_eq_getElem?_getD, List.getElem?_eq_getElem h]; exact hb _ (List.getElem_mem h)
  · simp [List.getD_eq_getElem?_getD, List.getElem?_eq_none (Nat.le_of_not_lt h)]
theorem src_byte {code : List Int} {b at_ seed : Int} (hb : 0 ≤ b) (h : Src code (b + 1) at_ seed) : ∃ r s', spec_l01Src_byte.f code at_ seed = some (r, at_ + 1, s') ∧ 0 ≤ r ∧ r ≤ 255 ∧ Src code b (at_ + 1) s' := by
  obtain ⟨h1, h2, h3, h4, h5, h6⟩ := h
  have hr := rdBy h2 at_
  unfold spec_l01Src_byte.f
  rw [if_pos ⟨h3, by omega, h5, h6, by omega⟩]
  by_cases c1 : at_ < (code.length : Int)
  · rw [if_pos c1, if_pos hr]
    exact ⟨_, _, rfl, hr.1, hr.2, h1, h2, by omega, by omega, by omega, by omega⟩
  · rw [if_neg c1]
    by_cases c2 : 4000 + 4 * (code.length : Int) < at_ + 1
    · rw [if_pos c2]
      exact ⟨_, _, rfl, by omega, by omega, h1, h2, by omega, by omega, by omega, by omega⟩
    · rw [if_neg c2]
      exact ⟨_, _, rfl, by omega, by omega, h1, h2, by omega, by omega, by omega, by omega⟩
theorem src_next {code : List Int} {b at_ seed : Int} (n : Int) (hn : n ≤ 2147483648) (hb : 0 ≤ b) (h : Src code (b + 3) at_ seed) :
    ∃ r a' s', spec_l01Src_next.f code at_ seed n = some (r, a', s') ∧ 0 ≤ r ∧ (1 ≤ n → r < n) ∧ (n ≤ 1 → r = 0) ∧ Src code b a' s' := by
  unfold spec_l01Src_next.f
  by_cases c1 : n ≤ 1
  · rw [if_pos c1]
    exact ⟨0, at_, seed, rfl, by omega, by omega, fun _ => rfl, h.less (by omega)⟩
  rw [if_neg c1]
  by_cases c2 : n ≤ 256
  · rw [if_pos c2]
    obtain ⟨r, s', e, h0, h1, h'⟩ := src_byte (b := b + 2) (by omega) (h.less (by omega))
    rw [e]
    simp only [Option.bind_some]
    rw [if_neg (by omega), Int.tmod_eq_emod_of_nonneg h0]
    exact ⟨_, _, _, rfl, Int.emod_nonneg _ (by omega), fun _ => Int.emod_lt_of_pos _ (by omega), by omega, h'.less (by omega)⟩
  · rw [if_neg c2]
    obtain ⟨r1, s1, e1, g0, g1, h1⟩ := src_byte (b := b + 2) (by omega) (h.less (by omega))
    rw [e1]
    simp only [Option.bind_some]
    obtain ⟨r2, s2, e2, g2, g3, h2⟩ := src_byte (b := b + 1) (by omega) (h1.less (by omega))
    rw [e2]
    simp only [Option.bind_some]
    obtain ⟨r3, s3, e3, g4, g5, h3⟩ := src_byte (b := b) hb h2
    rw [e3]
    simp only [Option.bind_some]
    rw [if_neg (by omega), w64 (x := r1 * 65536) (by omega) (by omega), w64 (x := r2 * 256) (by omega) (by omega), w64 (x := r1 * 65536 + r2 * 256) (by omega) (by omega), w64 (x := r1 * 65536 + r2 * 256 + r3) (by omega) (by omega), Int.tmod_eq_emod_of_nonneg (by omega)]
    exact ⟨_, _, _, rfl, Int.emod_nonneg _ (by omega), fun _ => Int.emod_lt_of_pos _ (by omega), by omega, h3⟩
theorem src_chance {code : List Int} {b at_ seed : Int} (n : Int) (hn : n ≤ 2147483648) (hb : 0 ≤ b) (h : Src code (b + 3) at_ seed) :
    ∃ r a' s', spec_l01Src_chance.f code at_ seed n = some (r, a', s') ∧ Src code b a' s' := by
  unfold spec_l01Src_chance.f
  obtain ⟨r, a', s', e, _, _, _, h'⟩ := src_next n hn hb h
  rw [e]
  exact ⟨_, _, _, rfl, h'⟩
theorem src_start (code : List Int) (h1 : code.length ≤ 1048576) (h2 : ∀ x ∈ code, 0 ≤ x ∧ x ≤ 255) : Src code 99999999999 0 ((code.length : Int) % 1000) := ⟨h1, h2, by omega, by omega, by omega, by omega⟩

theorem src_number {code : List Int} {b at_ seed : Int} (hb : 0 ≤ b) (h : Src code (b + 9) at_ seed) :
    ∃ r a' s', Ev (fun k => spec_l01Src_number.f k code at_ seed) (r, a', s') ∧ -9223372036854775808 ≤ r ∧ r ≤ 9223372036854775807 ∧ Src code b a' s' := by
  obtain ⟨r1, a1, s1, e1, p1, q1, _, h1⟩ := src_next (b := b + 6) 12 (by omega) (by omega) (h.less (by omega))
  have q1 := q1 (by omega)
  unfold spec_l01Src_number.f
  by_cases c0 : r1 = 0
  · obtain ⟨r2, a2, s2, e2, p2, q2, _, h2⟩ := src_next (b := b + 3) 9 (by omega) (by omega) (h1.less (by omega))
    have q2 := q2 (by omega)
    refine ⟨rd [0, 63, 64, 16383, 16384, 1073741823, 1073741824, 4611686018427387903, 4611686018427387902] r2, a2, s2, evPut e1 (evPos c0 (evPut rfl (evPut e2 (evPos p2 (evPos (by simpa using q2) (evNow rfl)))))), ?_, ?_, h2.less (by omega)⟩
    · rcases (by omega : r2 = 0 ∨ r2 = 1 ∨ r2 = 2 ∨ r2 = 3 ∨ r2 = 4 ∨ r2 = 5 ∨ r2 = 6 ∨ r2 = 7 ∨ r2 = 8) with rfl | rfl | rfl | rfl | rfl | rfl | rfl | rfl | rfl <;> simp [rd]
    · rcases (by omega : r2 = 0 ∨ r2 = 1 ∨ r2 = 2 ∨ r2 = 3 ∨ r2 = 4 ∨ r2 = 5 ∨ r2 = 6 ∨ r2 = 7 ∨ r2 = 8) with rfl | rfl | rfl | rfl | rfl | rfl | rfl | rfl | rfl <;> simp [rd]
  by_cases c1 : r1 = 1
  · obtain ⟨r2, a2, s2, e2, p2, q2, _, h2⟩ := src_next (b := b + 3) 16777216 (by omega) (by omega) (h1.less (by omega))
    have q2 := q2 (by omega)
    obtain ⟨r3, a3, s3, e3, p3, q3, _, h3⟩ := src_next (b := b) 65536 (by omega) (by omega) (h2.less (by omega))
    have q3 := q3 (by omega)
    refine ⟨r2 * 65536 + r3, a3, s3, evPut e1 (evNeg c0 (evPos c1 (evPut e2 (evPut e3 (evNow ?_))))), by omega, by omega, h3⟩
    rw [w64 (x := r2 * 65536) (by omega) (by omega), w64 (by omega) (by omega)]
  by_cases c2 : r1 = 2
  · obtain ⟨r2, a2, s2, e2, p2, q2, _, h2⟩ := src_next (b := b + 3) 4 (by omega) (by omega) (h1.less (by omega))
    have q2 := q2 (by omega)
    refine ⟨rd [(-1), 4611686018427387904, 9223372036854775807, (-9223372036854775808)] r2, a2, s2, evPut e1 (evNeg c0 (evNeg c1 (evPos c2 (evPut rfl (evPut e2 (evPos p2 (evPos (by simpa using q2) (evNow rfl)))))))), ?_, ?_, h2.less (by omega)⟩
    · rcases (by omega : r2 = 0 ∨ r2 = 1 ∨ r2 = 2 ∨ r2 = 3) with rfl | rfl | rfl | rfl <;> simp [rd]
    · rcases (by omega : r2 = 0 ∨ r2 = 1 ∨ r2 = 2 ∨ r2 = 3) with rfl | rfl | rfl | rfl <;> simp [rd]
  have tail : ∀ x : Bool, ∃ r a' s', Ev (fun k => spec_l01Src_number.j0 k x code a1 s1) (r, a', s') ∧ -9223372036854775808 ≤ r ∧ r ≤ 9223372036854775807 ∧ Src code b a' s' := by
    intro x
    obtain ⟨r2, a2, s2, e2, p2, q2, _, h2⟩ := src_next (b := b) 20000 (by omega) (by omega) (h1.less (by omega))
    have q2 := q2 (by omega)
    obtain ⟨r3, a3, s3, e3, p3, q3, _, h3⟩ := src_next (b := b) 100 (by omega) (by omega) (h1.less (by omega))
    have q3 := q3 (by omega)
    cases x with
    | true =>
      refine ⟨r2, a2, s2, evSucc ?_, by omega, by omega, h2⟩
      simp only [spec_l01Src_number.j0]
      exact evPos (by first | rfl | trivial) (evPut e2 (evNow rfl))
    | false =>
      refine ⟨r3, a3, s3, evSucc ?_, by omega, by omega, h3⟩
      simp only [spec_l01Src_number.j0]
      exact evNeg (by simp) (evPut e3 (evNow rfl))
  by_cases c3 : r1 = 3
  · obtain ⟨r, a', s', e, hh⟩ := tail (r1 == 3)
    exact ⟨r, a', s', evPut e1 (evNeg c0 (evNeg c1 (evNeg c2 (evPos c3 e)))), hh⟩
  · obtain ⟨r, a', s', e, hh⟩ := tail (r1 == 4)
    exact ⟨r, a', s', evPut e1 (evNeg c0 (evNeg c1 (evNeg c2 (evNeg c3 e)))), hh⟩

/-! ### a list's bytes, by the reference and by the program -/
def putR (acc : List Int) : List Int → List Int × Int
  | [] => (acc, 0)
  | x :: r => if varP x = true then putR (acc ++ encV x) r else ([], 1)
theorem putR_ok : ∀ (r acc : List Int), (∀ x ∈ r, varP x = true) → putR acc r = (acc ++ encs r, 0)
  | [], acc, _ => by simp [putR, encs]
  | x :: r, acc, h => by
    rw [putR, if_pos (h x List.mem_cons_self), putR_ok r _ (fun y hy => h y (List.mem_cons_of_mem _ hy))]
    simp [encs]
theorem putR_code : ∀ (r acc : List Int), (putR acc r).2 = 0 → ∀ x ∈ r, varP x = true
  | [], _, _ => by simp
  | x :: r, acc, h => by
    rw [putR] at h
    by_cases hx : varP x = true
    · rw [if_pos hx] at h
      have := putR_code r _ h
      intro y hy
      rcases List.mem_cons.1 hy with rfl | hy
      · exact hx
      · exact this y hy
    · rw [if_neg hx] at h; simp at h
theorem putBad (v : Int) (h : ¬ varP v = true) : Ev (fun k => spec_PutVar.f k v) ([], 1) := by
  have h := mt decide_eq_true h
  unfold spec_PutVar.f
  refine evBind (a := 0) ?_ (evPos rfl (Ev.now _))
  unfold spec_VarLen.f
  refine evSplit (fun _ => ?_) (fun h0 => ?_)
  · refine evSucc ?_
    simp only [spec_VarLen.j0]
    exact evPos (by simp) (Ev.now _)
  · rw [decide_eq_true (show v > 4611686018427387903 by omega)]
    refine evSucc ?_
    simp only [spec_VarLen.j0]
    exact evPos (by simp) (Ev.now _)
theorem putS_loop (l : List Int) (hl : l.length ≤ 4096) : ∀ (q i : Nat) (acc : List Int), i + q = l.length → acc.length ≤ 8 + 8 * i → Ev (fun k => spec_PutVars.l0 k l acc (i : Int)) (putR acc (l.drop i)) := by
  intro q
  induction q with
  | zero =>
    intro i acc h _
    refine evSucc ?_
    simp only [spec_PutVars.l0]
    rw [List.drop_of_length_le (by omega)]
    exact evNeg (by omega) (Ev.now _)
  | succ q ih =>
    intro i acc h ha
    have hi : i < l.length := by omega
    refine evSucc ?_
    simp only [spec_PutVars.l0]
    rw [List.drop_eq_getElem_cons hi, rdN l i hi, w64succ i (by omega), putR]
    refine evPos (by omega) (evPos (by omega) ?_)
    by_cases hx : varP l[i] = true
    · have hv := of_decide_eq_true hx
      have he := encV_le l[i]
      rw [if_pos hx]
      exact evBind (putV l[i] hv.1 hv.2) (evPos rfl (evPos (by simp only; omega) (ih (i + 1) _ (by omega) (by simp only [List.length_append]; omega))))
    · rw [if_neg hx]
      exact evBind (putBad l[i] hx) (evNeg (by decide) (Ev.now _))
def putL (l : List Int) : List Int × Int := if (l.length : Int) > 4096 then ([], 4) else putR (encV l.length) l
theorem putS (l : List Int) : Ev (fun k => spec_PutVars.f k l) (putL l) := by
  unfold spec_PutVars.f putL
  by_cases h : (l.length : Int) > 4096
  · rw [if_pos h]; exact evPos h (Ev.now _)
  · rw [if_neg h]
    have := encV_le (l.length : Int)
    exact evNeg h (evBind (putV l.length (by omega) (by omega)) (putS_loop l (by omega) l.length 0 _ (by omega) (by simp only; omega)))
theorem putI_loop (l : List Int) (hl : l.length ≤ 4096) : ∀ (q i : Nat) (acc : List Int), i + q = l.length → acc.length ≤ 8 + 8 * i → Ev (fun k => impl_PutVars.l0 k acc l (l.length : Int) (i : Int)) (putR acc (l.drop i)) := by
  intro q
  induction q with
  | zero =>
    intro i acc h _
    refine evSucc ?_
    simp only [impl_PutVars.l0]
    rw [List.drop_of_length_le (by omega)]
    exact evNeg (by omega) (Ev.now _)
  | succ q ih =>
    intro i acc h ha
    have hi : i < l.length := by omega
    refine evSucc ?_
    simp only [impl_PutVars.l0]
    rw [List.drop_eq_getElem_cons hi, rdN l i hi, w64succ i (by omega), putR]
    refine evPos (by omega) (evPos (by omega) (evPos (by omega) (evPut (varI _) ?_)))
    by_cases hx : varP l[i] = true
    · have hv := of_decide_eq_true hx
      have he := encV_le l[i]
      rw [if_pos hx]
      exact evPos hx (evBind (addV acc l[i] (by omega) hv.1 hv.2) (ih (i + 1) _ (by omega) (by rw [List.length_append]; omega)))
    · rw [if_neg hx]
      exact evNeg hx (Ev.now _)
theorem putI (l : List Int) : Ev (fun k => impl_PutVars.f k l) (putL l) := by
  unfold impl_PutVars.f putL
  by_cases h : (l.length : Int) > 4096
  · rw [if_pos h]; exact evPos h (Ev.now _)
  · rw [if_neg h]
    have := encV_le (l.length : Int)
    exact evNeg h (evBind (addV [] l.length (by simp) (by omega) (by omega)) (putI_loop l (by omega) l.length 0 _ (by omega) (by simp; omega)))
theorem copiedI (l : List Int) (h : l.length < 140737488355328) : laws_copied.f l = some l := by
  unfold laws_copied.f
  simp only [Option.bind_some, List.length_nil, Nat.zero_add]
  rw [if_pos h]
  rfl
theorem sameSelf (l : List Int) : laws_same.f l l = some true := by
  unfold laws_same.f
  simp
theorem sameIntsSelf (l : List Int) (hl : l.length ≤ 1000000) : Ev (fun k => laws_sameInts.f k l l) true := by
  unfold laws_sameInts.f
  refine evPos rfl ?_
  suffices h : ∀ (q i : Nat), i + q = l.length → Ev (fun k => laws_sameInts.l0 k l l (i : Int)) true from h l.length 0 (by omega)
  intro q
  induction q with
  | zero =>
    intro i h
    refine evSucc ?_
    simp only [laws_sameInts.l0]
    exact evNeg (by omega) (Ev.now _)
  | succ q ih =>
    intro i h
    refine evSucc ?_
    simp only [laws_sameInts.l0]
    rw [w64succ i (by omega)]
    exact evPos (by omega) (evPos (by omega) (evPos (by omega) (evPos (by first | rfl | trivial) (ih (i + 1) (by omega)))))
/-! ### a drawn list -/
theorem src_good {code : List Int} {b at_ seed : Int} (hb : 0 ≤ b) (h : Src code (b + 12) at_ seed) : ∃ r a' s', Ev (fun k => spec_l01Src_good.f k code at_ seed) (r, a', s') ∧ Src code b a' s' := by
  obtain ⟨r, a1, s1, e, _, _, h1⟩ := src_number (b := b + 3) (by omega) (h.less (by omega))
  obtain ⟨r2, a2, s2, e2, _, _, _, h2⟩ := src_next (b := b) 50 (by omega) hb h1
  unfold spec_l01Src_good.f
  by_cases c1 : r < 0
  · exact ⟨r2, a2, s2, evBind e (evPos c1 (evPut e2 (Ev.now _))), h2⟩
  by_cases c2 : r > 4611686018427387903
  · exact ⟨r2, a2, s2, evBind e (evNeg c1 (evPos c2 (evPut e2 (Ev.now _)))), h2⟩
  · exact ⟨r, a1, s1, evBind e (evNeg c1 (evNeg c2 (Ev.now _))), h1.less (by omega)⟩
theorem src_list_loop {code : List Int} : ∀ (n : Nat) (acc : List Int) (at_ seed : Int), acc.length + n ≤ 1000 → Src code (12 * (n : Int) + 1000) at_ seed → ∃ r a' s', Ev (fun k => spec_l01List.l0 k acc (n : Int) code at_ seed) (r, a', s') ∧ r.length ≤ 1000 ∧ Src code 1000 a' s' := by
  intro n
  induction n with
  | zero =>
    intro acc at_ seed hl h
    refine ⟨acc, at_, seed, evSucc ?_, by omega, h.less (by omega)⟩
    simp only [spec_l01List.l0]
    exact evNeg (by omega) (Ev.now _)
  | succ n ih =>
    intro acc at_ seed hl h
    obtain ⟨r, a1, s1, e, h1⟩ := src_good (b := 12 * (n : Int) + 1000) (by omega) (h.less (by omega))
    obtain ⟨r2, a2, s2, e2, hl2, h2⟩ := ih (acc ++ [r]) a1 s1 (by simp; omega) h1
    refine ⟨r2, a2, s2, evSucc ?_, hl2, h2⟩
    simp only [spec_l01List.l0]
    rw [w64 (x := ((n + 1 : Nat) : Int) - 1) (by omega) (by omega), show ((n + 1 : Nat) : Int) - 1 = (n : Int) by omega]
    exact evPos (by omega) (evBind e (evPos (by omega) e2))
theorem src_list {code : List Int} {at_ seed : Int} (h : Src code 5000 at_ seed) : ∃ r a' s', Ev (fun k => spec_l01List.f k code at_ seed) (r, a', s') ∧ r.length ≤ 1000 ∧ Src code 1000 a' s' := by
  have hc := h.len
  unfold spec_l01List.f spec_l01Src_size.f
  have hw : wrap64 (1 + wrap64 ((code.length : Int) / 12)) = 1 + (code.length : Int) / 12 := by rw [w64 (x := (code.length : Int) / 12) (by omega) (by omega), w64 (by omega) (by omega)]
  obtain ⟨m, hm, hm0, hm1⟩ : ∃ m : Int, mn (wrap64 (1 + wrap64 ((code.length : Int) / 12))) 40 = m ∧ 0 ≤ m ∧ m ≤ 40 := ⟨_, rfl, by rw [hw]; unfold mn; split <;> omega, by unfold mn; split <;> omega⟩
  rw [hm]
  obtain ⟨r1, a1, s1, e1, p1, q1, _, h1⟩ := src_next (b := 4000) (m + 1) (by omega) (by omega) (h.less (by omega))
  have q1 := q1 (by omega)
  obtain ⟨n, rfl⟩ : ∃ n : Nat, r1 = (n : Int) := ⟨r1.toNat, by omega⟩
  obtain ⟨r2, a2, s2, e2, hl2, h2⟩ := src_list_loop n [] a1 s1 (by simp; omega) (h1.less (by omega))
  refine ⟨r2, a2, s2, evPut rfl (evPut (a := ((n : Int), a1, s1)) ?_ e2), hl2, h2⟩
  simp only
  rw [w64 (x := m + 1) (by omega) (by omega)]
  exact e1
theorem drawTail {code : List Int} (l : List Int) {at_ seed : Int} (h : Src code 500 at_ seed) : ∃ r, Ev (fun k => spec_DrawPutVars.j0 k l code at_ seed) r := by
  obtain ⟨r1, a1, s1, e1, h1⟩ := src_chance (b := 400) 60 (by omega) (by omega) (h.less (by omega))
  by_cases hr : r1 = true
  · obtain ⟨r2, a2, s2, e2, p2, q2, _, h2⟩ := src_next (b := 300) 2 (by omega) (by omega) (h1.less (by omega))
    have q2 := q2 (by omega)
    refine ⟨List.replicate (4096 + r2).toNat 0, evSucc ?_⟩
    simp only [spec_DrawPutVars.j0]
    refine evPut e1 (evPos hr (evPut e2 ?_))
    simp only
    rw [w64 (x := 4096 + r2) (by omega) (by omega)]
    exact evPos (by omega) (evPos (by omega) (Ev.now _))
  · refine ⟨l, evSucc ?_⟩
    simp only [spec_DrawPutVars.j0]
    exact evPut e1 (evNeg hr (Ev.now _))
theorem drawL (code : List Int) (h1 : code.length ≤ 1048576) (h2 : ∀ x ∈ code, 0 ≤ x ∧ x ≤ 255) : ∃ l, Ev (fun k => spec_DrawPutVars.f k code) l := by
  have S0 := src_start code h1 h2
  obtain ⟨r1, a1, s1, e1, hl1, g1⟩ := src_list (S0.less (by omega))
  obtain ⟨r2, a2, s2, e2, g2⟩ := src_chance (b := 900) 6 (by omega) (by omega) (g1.less (by omega))
  unfold spec_DrawPutVars.f spec_l01Source.f
  by_cases hr : r2 = true
  · obtain ⟨r3, a3, s3, e3, _, _, g3⟩ := src_number (b := 800) (by omega) (g2.less (by omega))
    obtain ⟨r, e⟩ := drawTail (r1 ++ [r3]) (g3.less (by omega))
    exact ⟨r, evPut rfl (evBind e1 (evPut e2 (evPos hr (evBind e3 (evPos (by simp only; omega) e)))))⟩
  · obtain ⟨r, e⟩ := drawTail r1 (g2.less (by omega))
    exact ⟨r, evPut rfl (evBind e1 (evPut e2 (evNeg hr e)))⟩
/-! ### the law -/
theorem putOne (v : Int) (hv : varP v = true) : Ev (fun k => impl_PutVar.f k v) (encV v, 0) := by
  have h := of_decide_eq_true hv
  unfold impl_PutVar.f
  exact evPut (varI v) (evPos hv (evBind (addV [] v (by simp) h.1 h.2) (evNow (by simp))))
theorem lastStep (l : List Int) (i : Int) (hl : l.length ≤ 4096) (hv : ∀ x ∈ l, varP x = true) : Ev (fun k => laws_FnVars.j3 k l (encV l.length ++ encs l) i false) true := by
  have b1 := encs_le l
  have b2 := encV_le (l.length : Int)
  have b3 : 1 ≤ (encV (l.length : Int)).length := by rw [encV_length]; exact (vlen_le _).1
  have hA := getAll l [0] hl hv (by simp; omega)
  have hL := getLess l hl hv
  rw [if_neg (by simp)] at hA
  have hb : (encV (l.length : Int) ++ encs l).length ≤ 40000 := by rw [List.length_append]; omega
  have hb1 : 1 ≤ (encV (l.length : Int) ++ encs l).length := by rw [List.length_append]; omega
  generalize encV (l.length : Int) ++ encs l = b at hA hL hb hb1
  refine evSucc ?_
  simp only [laws_FnVars.j3]
  rw [w64 (x := (b.length : Int) - 1) (by omega) (by omega), show ((b.length : Int) - 1).toNat = b.length - 1 by omega, copiedI _ (by rw [List.length_take]; omega), copiedI b (by omega)]
  refine evNeg (by simp) (evPos (by omega) (evPos (by omega) (evPut rfl (evBind hL (evPut rfl (evPos (by omega) (evBind hA (evPos (by first | rfl | trivial) (evPos (by first | rfl | trivial) (Ev.now _)))))))))) 
theorem vars_loop (l : List Int) (hl : l.length ≤ 4096) (hv : ∀ x ∈ l, varP x = true) : ∀ (q i : Nat), i + q = l.length → Ev (fun k => laws_FnVars.l0 k l (encV l.length ++ encs l) (i : Int)) true := by
  intro q
  induction q with
  | zero =>
    intro i h
    refine evSucc ?_
    simp only [laws_FnVars.l0]
    exact evNeg (by omega) (lastStep l i hl hv)
  | succ q ih =>
    intro i h
    have hi : i < l.length := by omega
    have hx := hv _ (List.getElem_mem hi)
    have hw := of_decide_eq_true hx
    have hg := getOk [] [] l[i] hw.1 hw.2 (by have := encV_le l[i]; simp; omega)
    simp only [List.nil_append, List.append_nil, List.length_nil, Nat.zero_add] at hg
    have e8 := encV_le l[i]
    have el := encV_length l[i]
    have e1 := (vlen_le l[i]).1
    refine evSucc ?_
    simp only [laws_FnVars.l0]
    refine evPos (by omega) ?_
    by_cases h60 : (i : Int) < 60
    · rw [decide_eq_true h60]
      refine evSucc ?_
      simp only [laws_FnVars.j3]
      rw [rdN l i hi, w64succ i (by omega)]
      refine evPos (by first | rfl | trivial) (evPos (by omega) (evPos (by omega) (evBind (putOne _ hx) ?_)))
      simp only
      rw [copiedI _ (by omega)]
      refine evPut rfl (evBind hg (evPos (by first | rfl | trivial) (evPos (by first | rfl | trivial) (evPos (by first | rfl | trivial) (evPos ?_ (evPut (vlenI _ hw.1 hw.2) (evPos ?_ (evNeg ?_ (ih (i + 1) (by omega))))))))))
      · simp only; omega
      · omega
      · omega
    · rw [decide_eq_false h60]
      exact lastStep l i hl hv
theorem FnVars : laws_FnVars.Pure := by
  intro l0 _ _ hb
  refine evEnds ?_
  unfold laws_FnVars.f
  refine evSplit (fun _ => Ev.now _) (fun hlen => ?_)
  obtain ⟨l, hd⟩ := drawL l0 (by omega) (fun x hx => wfB (hb x hx))
  refine evBind hd (evBind (putS l) (evBind hd (evBind (putI l) (evPos (by first | rfl | trivial) ?_))))
  rw [sameSelf]
  refine evPut rfl (evSucc ?_)
  simp only [laws_FnVars.j0]
  refine evNeg (by simp) (evSplit (fun h0 => ?_) (fun _ => Ev.now _))
  unfold putL at h0 ⊢
  by_cases c : (l.length : Int) > 4096
  · rw [if_pos c] at h0; simp at h0
  · rw [if_neg c] at h0 ⊢
    have hv := putR_code l _ h0
    have hl : l.length ≤ 4096 := by omega
    have b1 := encs_le l
    have b2 := encV_le (l.length : Int)
    have hA := getAll l [] hl hv (by simp; omega)
    rw [if_pos rfl, List.append_nil] at hA
    rw [putR_ok l _ hv]
    simp only
    rw [copiedI _ (by rw [List.length_append]; omega)]
    refine evPut rfl (evBind hA (evPos (by first | rfl | trivial) (evBind (sameIntsSelf l (by omega)) (evSucc ?_))))
    simp only [laws_FnVars.j1]
    exact evNeg (by simp) (vars_loop l hl hv l.length 0 (by omega))

end Go.Proofs.Ytjhcphcjpndciaa.Pure
