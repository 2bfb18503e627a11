/- What is sealed by the program with drawn keys, number and head is opened by the program to the same body; with the next keys, or another number, it has the code that the reference has; no condition. -/
import Derived.Test.YtolpikjbdfpdcaaPFnSealedx0
import Derived.Test.YtolpikjbdfpdcaaPFnSealedx1
import Derived.Test.YtolpikjbdfpdcaaPFnSealedx2
import Derived.Test.YtolpikjbdfpdcaaPFnSealedx3
import Derived.Test.YtolpikjbdfpdcaaPFnSealedx4
import Derived.Test.YtolpikjbdfpdcaaPFnSealedx5
import Derived.Test.YtolpikjbdfpdcaaPFnSealedx6
import Derived.Test.YtolpikjbdfpdcaaPFnSealedx7
import Derived.Test.YtolpikjbdfpdcaaPFnSealedx8
import Derived.Test.YtolpikjbdfpdcaaPFnSealedx9
import Derived.Test.YtolpikjbdfpdcaaPFnSealedx10
import Derived.Test.YtolpikjbdfpdcaaPFnSealedx11
import Derived.Test.YtolpikjbdfpdcaaPFnSealedx12
import Derived.Test.YtolpikjbdfpdcaaPFnSealedx13
import Derived.Laws.BitsLemmas
import Derived.Laws.BitsAllLaws
set_option linter.unusedVariables false
set_option linter.unusedSimpArgs false
set_option maxRecDepth 4000
namespace Go.Proofs.Ytolpikjbdfpdcaa.Pure
open Go.RowKit Go.Proofs.Ytolpikjbdfpdcaa.PFnSealed Go.Proofs.YtolpikjbdfpdcaaW.PrintWords Go.Proofs.YtolpikjbdfpdcaaW.PrintLast Go.Proofs.YtolpikjbdfpdcaaW.PrintMore

/-! ### tools: what a printed function comes to -/
theorem evSucc {α : Type} {g : Nat → Option α} {r : α} (h : Ev (fun k => g (k + 1)) r) : Ev g r := Ev.step (fun _ => rfl) h
theorem evPos {α : Type} {c : Prop} {dc : Decidable c} {a b : Nat → Option α} {r : α} (h : c) (e : Ev a r) : Ev (fun k => if c then a k else b k) r :=
  Ev.congr (fun _ => if_pos h) e
theorem evNeg {α : Type} {c : Prop} {dc : Decidable c} {a b : Nat → Option α} {r : α} (h : ¬ c) (e : Ev b r) : Ev (fun k => if c then a k else b k) r :=
  Ev.congr (fun _ => if_neg h) e
theorem evSplit {α : Type} {c : Prop} {dc : Decidable c} {a b : Nat → Option α} {r : α} (h : c → Ev a r) (h' : ¬ c → Ev b r) : Ev (fun k => if c then a k else b k) r := by
  by_cases hc : c
  · exact evPos hc (h hc)
  · exact evNeg hc (h' hc)
theorem evBind {α β : Type} {g : Nat → Option α} {f : Nat → α → Option β} {a : α} {r : β} (h : Ev g a) (k : Ev (fun n => f n a) r) : Ev (fun n => (g n).bind (f n)) r := Ev.bind h k
theorem evPut {α β : Type} {o : Option α} {f : Nat → α → Option β} {a : α} {r : β} (h : o = some a) (k : Ev (fun n => f n a) r) : Ev (fun n => o.bind (f n)) r :=
  Ev.congr (fun _ => by rw [h]; rfl) k
theorem evNow {α : Type} {r r' : α} (h : r = r') : Ev (fun _ => some r) r' := h ▸ Ev.now r
theorem evOf {α : Type} {o : Option α} {r : α} (h : o = some r) : Ev (fun _ => o) r := ⟨0, fun _ _ => h⟩
theorem evEnds {α : Type} {g : Nat → Option α} {r : α} (h : Ev g r) : ∃ k, g k = some r := Ev.rounds h
theorem w64 {x : Int} (h : -9223372036854775808 ≤ x) (h' : x ≤ 9223372036854775807) : wrap64 x = x := by unfold wrap64; omega
theorem w64succ (i : Nat) (h : i < 4611686018427387904) : wrap64 ((i : Int) + 1) = ((i + 1 : Nat) : Int) := by unfold wrap64; omega
theorem wfI {x : Int} (h : (Lit.int .i64 x).wf = true) : -9223372036854775808 ≤ x ∧ x ≤ 9223372036854775807 := by
  simp only [Lit.wf, IntKind.min, IntKind.max, IntKind.bits, IntKind.signed, Bool.and_eq_true, decide_eq_true_eq] at h
  simpa using h
theorem wfB {x : Int} (h : (Lit.int .u8 x).wf = true) : 0 ≤ x ∧ x ≤ 255 := by
  simp only [Lit.wf, IntKind.min, IntKind.max, IntKind.bits, IntKind.signed, Bool.and_eq_true, decide_eq_true_eq] at h
  simpa using h
theorem rdN (l : List Int) (i : Nat) (h : i < l.length) : rd l (i : Int) = l[i] := by simp [rd, List.getD_eq_getElem?_getD, h]
theorem fillStep {α : Type} (l : List α) (z : α) (i d : Nat) (h : i + (d + 1) = l.length) : (l.take i ++ List.replicate (d + 1) z).set i (l[i]'(by omega)) = l.take (i + 1) ++ List.replicate d z := by
  rw [List.set_append_right _ _ (by simp; omega), List.take_succ_eq_append_getElem (show i < l.length by omega), List.append_assoc]
  congr 1
  have e : i - (l.take i).length = 0 := by simp; omega
  rw [e]
  rfl
theorem evCast {α : Type} {g : Nat → Option α} {r r' : α} (h : Ev g r') (e : r' = r) : Ev g r := e ▸ h

/-! ### a number laid into bytes, the high one first -/
def digits (v : Int) : Nat → List Int
  | 0 => []
  | n + 1 => digits (v / 256) n ++ [v % 256]
theorem digits_length : ∀ (n : Nat) (v : Int), (digits v n).length = n
  | 0, _ => rfl
  | n + 1, v => by simp [digits, digits_length n]
theorem digits_top : ∀ (n : Nat) (v : Int), digits v (n + 1) = (v / 256 ^ n % 256) :: digits v n
  | 0, v => by simp [digits]
  | n + 1, v => by
    have e : digits v (n + 1 + 1) = digits (v / 256) (n + 1) ++ [v % 256] := rfl
    rw [e, digits_top n (v / 256), Int.ediv_ediv_of_nonneg (by decide), ← Int.pow_succ']
    rfl
theorem digits_byte : ∀ (n : Nat) (v : Int), ∀ x ∈ digits v n, 0 ≤ x ∧ x ≤ 255
  | 0, _, x, h => by simp [digits] at h
  | n + 1, v, x, h => by
    simp only [digits, List.mem_append, List.mem_singleton] at h
    rcases h with h | h
    · exact digits_byte n _ x h
    · omega
theorem digS : ∀ (n : Nat) (v : Int), n ≤ 1000 → 0 ≤ v → v ≤ 9223372036854775807 → Ev (fun k => spec_l01Digits.f k v (n : Int)) (digits v n) := by
  intro n
  induction n with
  | zero =>
    intro v _ _ _
    refine evSucc ?_
    simp only [spec_l01Digits.f]
    exact evPos (by omega) (Ev.now _)
  | succ n ih =>
    intro v hn h0 h1
    refine evSucc ?_
    simp only [spec_l01Digits.f]
    refine evNeg (by omega) ?_
    rw [Int.tdiv_eq_ediv_of_nonneg h0, Int.tmod_eq_emod_of_nonneg h0, w64 (x := v / 256) (by omega) (by omega), w64 (x := ((n + 1 : Nat) : Int) - 1) (by omega) (by omega), show ((n + 1 : Nat) : Int) - 1 = (n : Int) by omega]
    refine evBind (ih (v / 256) (by omega) (by omega) (by omega)) (evPos (by rw [digits_length]; omega) (evNow ?_))
    rw [Int.emod_emod]
    rfl
theorem u64N (x : Int) (h0 : 0 ≤ x) (h1 : x ≤ 9223372036854775807) : IntKind.u64.wrap x = x := by
  have : IntKind.u64.wrap x = x % 18446744073709551616 := by simp [IntKind.wrap, IntKind.bits, IntKind.signed]
  rw [this]; omega
theorem shr8 (x : Int) (n : Nat) (hn : n ≤ 7) : shr .u64 x (8 * (n : Int)) = x / 256 ^ n := by
  unfold shr
  have e : min (8 * (n : Int)).toNat IntKind.u64.bits = 8 * n := by simp only [IntKind.bits]; omega
  rw [e, Int.pow_mul]
  rfl
theorem fixI : ∀ (n : Nat) (l : List Int) (v : Int), n ≤ 8 → l.length + n ≤ 100000008 → 0 ≤ v → v ≤ 9223372036854775807 → Ev (fun k => impl_fixed.l0 k l v ((n : Int) - 1)) (l ++ digits v n) := by
  intro n
  induction n with
  | zero =>
    intro l v _ _ _ _
    refine evSucc ?_
    simp only [impl_fixed.l0]
    refine evNeg (by omega) (evNow ?_)
    simp [digits]
  | succ n ih =>
    intro l v hn hl h0 h1
    refine evSucc ?_
    simp only [impl_fixed.l0]
    rw [show ((n + 1 : Nat) : Int) - 1 = (n : Int) by omega, w64 (x := 8 * (n : Int)) (by omega) (by omega), w64 (x := (n : Int) - 1) (by omega) (by omega), u64N v h0 h1, shr8 v n (by omega)]
    refine evPos (by omega) (evPos (by omega) (evPos (by omega) ?_))
    have e : l ++ digits v (n + 1) = (l ++ [v / 256 ^ n % 256]) ++ digits v n := by rw [digits_top]; simp
    rw [e]
    exact ih _ v (by omega) (by simp; omega) h0 h1
theorem fixF (n : Nat) (l : List Int) (v : Int) (hn : n ≤ 8) (hl : l.length ≤ 1000000) (h0 : 0 ≤ v) (h1 : v ≤ 9223372036854775807) : Ev (fun k => impl_fixed.f k l v (n : Int)) (l ++ digits v n) := by
  unfold impl_fixed.f
  rw [w64 (x := (n : Int) - 1) (by omega) (by omega)]
  exact fixI n l v hn (by omega) h0 h1

/-! ### the digest -/
def rot (x s : Int) : Int := Go.bits .or .u32 (shl .u32 x s) (shr .u32 x (32 - s))
theorem rotS (x s : Int) (h0 : 0 ≤ s) (h1 : s ≤ 32) : spec_l03Rot.f x s = some (rot x s) := by
  unfold spec_l03Rot.f rot
  rw [u64N s h0 (by omega), w64 (x := 32 - s) (by omega) (by omega), u64N (32 - s) (by omega) (by omega), if_pos h0, if_pos (by omega)]
theorem rotS7 (x : Int) : spec_l03Rot.f x 7 = some (rot x 7) := rotS x 7 (by decide) (by decide)
theorem rotS13 (x : Int) : spec_l03Rot.f x 13 = some (rot x 13) := rotS x 13 (by decide) (by decide)
theorem rotS17 (x : Int) : spec_l03Rot.f x 17 = some (rot x 17) := rotS x 17 (by decide) (by decide)
theorem rotI7 (x : Int) : bits_RotateLeft32.f x 7 = some (rot x 7) := rfl
theorem rotI13 (x : Int) : bits_RotateLeft32.f x 13 = some (rot x 13) := rfl
theorem rotI17 (x : Int) : bits_RotateLeft32.f x 17 = some (rot x 17) := rfl
def Four := Int × Int × Int × Int
def stepP (a b c d v : Int) : Int × Int × Int × Int :=
  let x := Go.bits .xor .u32 a (v % 4294967296) * 16777619 % 4294967296
  let b1 := rot ((b + x) % 4294967296) 7
  let c1 := rot (Go.bits .xor .u32 c b1) 13
  let d1 := rot ((d + c1) % 4294967296) 17
  (Go.bits .xor .u32 x d1, b1, c1, d1)
def stirP : List Int → Int × Int × Int × Int → Int × Int × Int × Int
  | [], s => s
  | v :: l, s => stirP l (stepP s.1 s.2.1 s.2.2.1 s.2.2.2 v)
theorem stir1_is (a b c d v : Int) : stir1 a b c d v = some (stepP a b c d v) := by
  simp only [stir1, rotI7, rotI13, rotI17, Option.bind_some, stepP]
theorem stirAll_is : ∀ (l : List Int) (a b c d : Int), stirAll l a b c d = some (stirP l (a, b, c, d))
  | [], _, _, _, _ => rfl
  | v :: l, a, b, c, d => by
    simp only [stirAll, stir1_is, Option.bind_some]
    exact stirAll_is l _ _ _ _
theorem stirI (l : List Int) (s : Int × Int × Int × Int) (h : l.length < 4611686018427387904) : impl_stirrer_stir.f s.1 s.2.1 s.2.2.1 s.2.2.2 l = some (stirP l s) := by
  unfold impl_stirrer_stir.f
  rw [if_pos h, stirAll_is]
theorem stirS_loop (l : List Int) (hl : l.length < 4611686018427387904) : ∀ (d i : Nat) (s : Int × Int × Int × Int), i + d = l.length → Ev (fun k => spec_l03Stir.l0 k l (i : Int) s.1 s.2.1 s.2.2.1 s.2.2.2) (stirP (l.drop i) s) := by
  intro d
  induction d with
  | zero =>
    intro i s h
    refine evSucc ?_
    simp only [spec_l03Stir.l0]
    refine evNeg (by omega) (evNow ?_)
    rw [List.drop_eq_nil_of_le (by omega)]
    rfl
  | succ d ih =>
    intro i s h
    refine evSucc ?_
    simp only [spec_l03Stir.l0]
    refine evPos (by omega) (evPos (by omega) ?_)
    refine evPut (rotS7 _) (evPut (rotS13 _) (evPut (rotS17 _) ?_))
    rw [w64succ i (by omega), List.drop_eq_getElem_cons (show i < l.length by omega), rdN l i (by omega)]
    exact ih (i + 1) (stepP s.1 s.2.1 s.2.2.1 s.2.2.2 l[i]) (by omega)
theorem stirS (l : List Int) (s : Int × Int × Int × Int) (hl : l.length < 4611686018427387904) : Ev (fun k => spec_l03Stir.f k s.1 s.2.1 s.2.2.1 s.2.2.2 l) (stirP l s) := by
  have h := stirS_loop l hl l.length 0 s (by omega)
  simpa [spec_l03Stir.f] using h
/-! every number of it is one of 32 bits -/
def inR (s : Int × Int × Int × Int) : Prop := (0 ≤ s.1 ∧ s.1 < 4294967296) ∧ (0 ≤ s.2.1 ∧ s.2.1 < 4294967296) ∧ (0 ≤ s.2.2.1 ∧ s.2.2.1 < 4294967296) ∧ (0 ≤ s.2.2.2 ∧ s.2.2.2 < 4294967296)
theorem bits32 (op : BinOp) (x y : Int) : 0 ≤ Go.bits op .u32 x y ∧ Go.bits op .u32 x y < 4294967296 := by
  unfold Go.bits
  simp only [IntKind.wrap_u32]
  omega
theorem rotR (x s : Int) : 0 ≤ rot x s ∧ rot x s < 4294967296 := bits32 _ _ _
theorem stepP_inR (a b c d v : Int) : inR (stepP a b c d v) := by
  simp only [inR, stepP]
  exact ⟨bits32 _ _ _, rotR _ _, rotR _ _, rotR _ _⟩
theorem stirP_inR : ∀ (l : List Int) (s : Int × Int × Int × Int), inR s → inR (stirP l s)
  | [], _, h => h
  | _ :: l, _, _ => stirP_inR l _ (stepP_inR _ _ _ _ _)
def iterP : Nat → Int × Int × Int × Int → Int × Int × Int × Int
  | 0, s => s
  | n + 1, s => iterP n (stirP [165] s)
theorem iterP_inR : ∀ (n : Nat) (s : Int × Int × Int × Int), inR s → inR (iterP n s)
  | 0, _, h => h
  | n + 1, _, h => iterP_inR n _ (stirP_inR _ _ h)
theorem iterI : ∀ (n : Nat) (s : Int × Int × Int × Int), impl_digest.iter n s.1 s.2.1 s.2.2.1 s.2.2.2 = some (iterP n s)
  | 0, _ => rfl
  | n + 1, s => by
    simp only [impl_digest.iter, stirI [165] s (by decide), Option.bind_some]
    exact iterI n _
def start4 : Int × Int × Int × Int := (1779033703, 3144134277, 1013904242, 2773480762)
def stateP (key data : List Int) : Int × Int × Int × Int :=
  iterP 16 (stirP (digits data.length 4) (stirP data (stirP key (stirP (digits key.length 4) start4))))
theorem stateP_inR (key data : List Int) : inR (stateP key data) := iterP_inR _ _ (stirP_inR _ _ (stirP_inR _ _ (stirP_inR _ _ (stirP_inR _ _ (by simp only [inR, start4]; omega)))))
def digP (key data : List Int) : List Int :=
  let s := stateP key data
  digits s.1 4 ++ digits s.2.1 4 ++ digits s.2.2.1 4 ++ digits s.2.2.2 4
theorem digP_length (key data : List Int) : (digP key data).length = 16 := by simp [digP, digits_length]
theorem digP_byte (key data : List Int) : ∀ x ∈ digP key data, 0 ≤ x ∧ x ≤ 255 := by
  intro x h
  simp only [digP, List.mem_append] at h
  rcases h with ((h | h) | h) | h <;> exact digits_byte _ _ x h
theorem digI_end (s : Int × Int × Int × Int) (hr : inR s) : Ev (fun k => (impl_fixed.f k [] (wrap64 s.1) 4).bind fun o1 => (impl_fixed.f k o1 (wrap64 s.2.1) 4).bind fun o2 => (impl_fixed.f k o2 (wrap64 s.2.2.1) 4).bind fun o3 => impl_fixed.f k o3 (wrap64 s.2.2.2) 4) (digits s.1 4 ++ digits s.2.1 4 ++ digits s.2.2.1 4 ++ digits s.2.2.2 4) := by
  unfold inR at hr
  rw [w64 (x := s.1) (by omega) (by omega), w64 (x := s.2.1) (by omega) (by omega), w64 (x := s.2.2.1) (by omega) (by omega), w64 (x := s.2.2.2) (by omega) (by omega)]
  have h1 := fixF 4 [] s.1 (by decide) (by decide) (by omega) (by omega)
  have h2 := fixF 4 (digits s.1 4) s.2.1 (by decide) (by simp [digits_length]) (by omega) (by omega)
  have h3 := fixF 4 (digits s.1 4 ++ digits s.2.1 4) s.2.2.1 (by decide) (by simp [digits_length]) (by omega) (by omega)
  have h4 := fixF 4 (digits s.1 4 ++ digits s.2.1 4 ++ digits s.2.2.1 4) s.2.2.2 (by decide) (by simp [digits_length]) (by omega) (by omega)
  rw [List.nil_append] at h1
  exact evBind h1 (evBind h2 (evBind h3 h4))
theorem digI (key data : List Int) (h1 : key.length ≤ 1000000000) (h2 : data.length ≤ 1000000000) : Ev (fun k => impl_digest.f k key data) (digP key data) := by
  have hr := stateP_inR key data
  have a1 := fixF 4 [] (key.length : Int) (by decide) (by decide) (by omega) (by omega)
  have a2 := fixF 4 [] (data.length : Int) (by decide) (by decide) (by omega) (by omega)
  rw [List.nil_append] at a1 a2
  unfold impl_digest.f digP
  refine evBind a1 (evPut (stirI _ start4 (by rw [digits_length]; decide)) (evPut (stirI key _ (by omega)) (evPut (stirI data _ (by omega)) (evBind a2 (evPut (stirI _ _ (by rw [digits_length]; decide)) (evPut (iterI 16 _) ?_))))))
  exact digI_end (stateP key data) hr
theorem digS_loop (s0 : Int × Int × Int × Int) (hs : inR (iterP 16 s0)) : ∀ (d i : Nat) (s : Int × Int × Int × Int), i + d = 16 → iterP d s = iterP 16 s0 → Ev (fun k => spec_l03Digest.l0 k (i : Int) s.1 s.2.1 s.2.2.1 s.2.2.2) (digits (iterP 16 s0).1 4 ++ digits (iterP 16 s0).2.1 4 ++ digits (iterP 16 s0).2.2.1 4 ++ digits (iterP 16 s0).2.2.2 4) := by
  intro d
  induction d with
  | zero =>
    intro i s h he
    have hr := hs
    rw [← he] at hr ⊢
    simp only [iterP] at hr ⊢
    unfold inR at hr
    refine evSucc ?_
    simp only [spec_l03Digest.l0]
    rw [w64 (x := s.1) (by omega) (by omega), w64 (x := s.2.1) (by omega) (by omega), w64 (x := s.2.2.1) (by omega) (by omega), w64 (x := s.2.2.2) (by omega) (by omega)]
    refine evNeg (by omega) (evBind (digS 4 _ (by decide) (by omega) (by omega)) (evBind (digS 4 _ (by decide) (by omega) (by omega)) (evPos (by simp [digits_length]) (evPut rfl (evBind (digS 4 _ (by decide) (by omega) (by omega)) (evPos (by simp [digits_length]) (evPut rfl (evBind (digS 4 _ (by decide) (by omega) (by omega)) (evPos (by simp [digits_length]) (Ev.now _))))))))))
  | succ d ih =>
    intro i s h he
    refine evSucc ?_
    simp only [spec_l03Digest.l0]
    refine evPos (by omega) (evBind (stirS [165] s (by decide)) ?_)
    rw [w64succ i (by omega)]
    exact ih (i + 1) _ (by omega) he
theorem digSp (key data : List Int) (h1 : key.length ≤ 1000000000) (h2 : data.length ≤ 1000000000) : Ev (fun k => spec_l03Digest.f k key data) (digP key data) := by
  unfold spec_l03Digest.f
  refine evBind (digS 4 _ (by decide) (by omega) (by omega)) (evBind (stirS _ start4 (by rw [digits_length]; decide)) (evBind (stirS key _ (by omega)) (evBind (stirS data _ (by omega)) (evBind (digS 4 _ (by decide) (by omega) (by omega)) (evBind (stirS _ _ (by rw [digits_length]; decide)) ?_)))))
  exact digS_loop _ (stateP_inR key data) 16 0 _ (by omega) rfl

/-! ### keys out of a secret -/
def derL : Nat → List Int → List Int → Nat → Nat → List Int → List Int
  | 0, _, _, n, _, o => o.take n
  | f + 1, sec, lab, n, i, o => if o.length < n then derL f sec lab n (i + 1) (o ++ digP sec (lab ++ [(i : Int) % 256])) else o.take n
theorem derI_loop (sec : List Int) (a1 : ByteArray) (n : Nat) (hs : sec.length = 16) (ha : a1.size ≤ 32) (hn : n ≤ 64) : ∀ (f i : Nat) (o : List Int), i + f = 4 → o.length = 16 * i →
    Ev (fun k => impl_Derive.l0 k sec a1 (n : Int) (i : Int) o) (derL f sec (bytesOf a1) n i o) := by
  intro f
  induction f with
  | zero =>
    intro i o h ho
    refine evSucc ?_
    simp only [impl_Derive.l0]
    refine evNeg (by omega) (evPos (by omega) (evNow ?_))
    simp [derL]
  | succ f ih =>
    intro i o h ho
    refine evSucc ?_
    simp only [impl_Derive.l0, derL]
    by_cases hc : o.length < n
    · rw [if_pos hc]
      have hb := bytesOf_length a1
      have hd := digP_length sec (bytesOf a1 ++ [(i : Int) % 256])
      refine evPos (by omega) (evPos (by omega) (evBind (digI _ _ (by omega) (by simp; omega)) (evPos (by omega) ?_)))
      exact ih (i + 1) _ (by omega) (by rw [List.length_append, hd]; omega)
    · rw [if_neg hc]
      refine evNeg (by omega) (evPos (by omega) (evNow ?_))
      simp
theorem derS_loop (sec : List Int) (a1 : ByteArray) (n : Nat) (hs : sec.length = 16) (ha : a1.size ≤ 32) (hn : n ≤ 64) : ∀ (f i : Nat) (o : List Int), i + f = 4 → o.length = 16 * i →
    Ev (fun k => spec_Derive.l0 k sec a1 (n : Int) (i : Int) o) (derL f sec (bytesOf a1) n i o) := by
  intro f
  induction f with
  | zero =>
    intro i o h ho
    refine evSucc ?_
    simp only [spec_Derive.l0]
    refine evNeg (by omega) (evPos (by omega) (evNow ?_))
    simp [derL]
  | succ f ih =>
    intro i o h ho
    refine evSucc ?_
    simp only [spec_Derive.l0, derL]
    by_cases hc : o.length < n
    · rw [if_pos hc]
      have hb := bytesOf_length a1
      have hd := digP_length sec (bytesOf a1 ++ [(i : Int) % 256])
      refine evPos (by omega) (evPos (by omega) (evBind (digSp _ _ (by omega) (by simp; omega)) (evPos (by omega) ?_)))
      exact ih (i + 1) _ (by omega) (by rw [List.length_append, hd]; omega)
    · rw [if_neg hc]
      refine evNeg (by omega) (evPos (by omega) (evNow ?_))
      simp
theorem derL_length (sec lab : List Int) (n : Nat) (hn : n ≤ 64) : ∀ (f i : Nat) (o : List Int), i + f = 4 → o.length = 16 * i → (derL f sec lab n i o).length = n := by
  intro f
  induction f with
  | zero =>
    intro i o h ho
    simp only [derL, List.length_take]
    omega
  | succ f ih =>
    intro i o h ho
    simp only [derL]
    by_cases hc : o.length < n
    · rw [if_pos hc]
      exact ih (i + 1) _ (by omega) (by rw [List.length_append, digP_length]; omega)
    · rw [if_neg hc, List.length_take]
      omega
def derP (sec lab : List Int) (n : Nat) : List Int := derL 4 sec lab n 0 []
theorem derP_length (sec lab : List Int) (n : Nat) (hn : n ≤ 64) : (derP sec lab n).length = n := derL_length sec lab n hn 4 0 [] (by decide) rfl
theorem derI (sec : List Int) (a1 : ByteArray) (n : Nat) (hs : sec.length = 16) (ha : a1.size ≤ 32) (h1 : 1 ≤ n) (hn : n ≤ 64) : Ev (fun k => impl_Derive.f k sec a1 (n : Int)) (derP sec (bytesOf a1) n) := by
  unfold impl_Derive.f
  exact evNeg (by omega) (evNeg (by omega) (evNeg (by omega) (evNeg (by omega) (derI_loop sec a1 n hs ha hn 4 0 [] (by decide) rfl))))
theorem derS (sec : List Int) (a1 : ByteArray) (n : Nat) (hs : sec.length = 16) (ha : a1.size ≤ 32) (h1 : 1 ≤ n) (hn : n ≤ 64) : Ev (fun k => spec_Derive.f k sec a1 (n : Int)) (derP sec (bytesOf a1) n) := by
  unfold spec_Derive.f
  exact evNeg (by omega) (evNeg (by omega) (evNeg (by omega) (evNeg (by omega) (derS_loop sec a1 n hs ha hn 4 0 [] (by decide) rfl))))
def tKey : ByteArray := ⟨#[107, 101, 121]⟩
def tIv : ByteArray := ⟨#[105, 118]⟩
def tMask : ByteArray := ⟨#[109, 97, 115, 107]⟩
def keysP (sec : List Int) : List Int × List Int × List Int × List Int :=
  if sec.length = 16 then (sec, derP sec (bytesOf tKey) 16, derP sec (bytesOf tIv) 8, derP sec (bytesOf tMask) 16) else ([], [], [], [])
theorem keysI (sec : List Int) : Ev (fun k => impl_KeysOf.f k sec) (keysP sec) := by
  unfold impl_KeysOf.f keysP
  by_cases h : sec.length = 16
  · rw [if_pos h]
    refine evPos (by omega) (evPut rfl (evPos (by simp; omega) ?_))
    refine evBind (derI sec tKey 16 h (by decide) (by decide) (by decide)) (evBind (derI sec tIv 8 h (by decide) (by decide) (by decide)) (evBind (derI sec tMask 16 h (by decide) (by decide) (by decide)) (evNow ?_)))
    simp
  · rw [if_neg h]
    exact evNeg (by omega) (Ev.now _)
theorem copyS (l : List Int) (h : l.length < 100000000000) : spec_l03Copy.f l = some l := by
  unfold spec_l03Copy.f
  simp only [Option.bind_some, List.nil_append, List.length_nil]
  rw [if_pos (by omega)]
theorem keysS (sec : List Int) : Ev (fun k => spec_KeysOf.f k sec) (keysP sec) := by
  unfold spec_KeysOf.f keysP
  by_cases h : sec.length = 16
  · rw [if_pos h]
    refine evPos (by omega) (evPut (copyS sec (by omega)) ?_)
    exact evBind (derS sec tKey 16 h (by decide) (by decide) (by decide)) (evBind (derS sec tIv 8 h (by decide) (by decide) (by decide)) (evBind (derS sec tMask 16 h (by decide) (by decide) (by decide)) (Ev.now _)))
  · rw [if_neg h]
    exact evNeg (by omega) (Ev.now _)

/-! ### what is laid over what -/
theorem xorComm (x y : Int) : Go.bits .xor .u8 x y = Go.bits .xor .u8 y x := by
  simp only [Go.bits]; rw [BitVec.xor_comm]
def upTo (g : Nat → Int) (n : Nat) : List Int := (List.range n).map g
theorem upTo_length (g : Nat → Int) (n : Nat) : (upTo g n).length = n := by simp [upTo]
theorem upTo_succ (g : Nat → Int) (n : Nat) : upTo g (n + 1) = upTo g n ++ [g n] := by simp [upTo, List.range_succ]
theorem upTo_same {g g' : Nat → Int} {n : Nat} (h : ∀ i, i < n → g i = g' i) : upTo g n = upTo g' n := by
  unfold upTo
  apply List.map_congr_left
  intro i hi
  exact h i (by simpa using hi)
theorem setNext (g : Nat → Int) (d : List Int) (i : Nat) (h : i < d.length) : (upTo g i ++ d.drop i).set i (g i) = upTo g (i + 1) ++ d.drop (i + 1) := by
  rw [List.set_append_right _ _ (by simp [upTo_length]), upTo_length, Nat.sub_self, upTo_succ, List.append_assoc]
  congr 1
  rw [List.drop_eq_getElem_cons h]
  rfl
theorem rdNext (g : Nat → Int) (d : List Int) (i : Nat) (h : i < d.length) : rd (upTo g i ++ d.drop i) (i : Int) = rd d (i : Int) := by
  simp [rd, List.getD_eq_getElem?_getD, List.getElem?_append, upTo_length]
theorem nextLength (g : Nat → Int) (d : List Int) (i : Nat) (h : i ≤ d.length) : (upTo g i ++ d.drop i).length = d.length := by
  simp [upTo_length]; omega
def xorG (a b : List Int) (i : Nat) : Int := Go.bits .xor .u8 (rd a (i : Int)) (rd b (i : Int))
theorem xorS_loop (a b : List Int) (hl : a.length ≤ b.length) (ha : a.length < 1000000000) : ∀ (d i : Nat), i + d = a.length → Ev (fun k => spec_l03Xor.l0 k a b (upTo (xorG a b) i) (i : Int)) (upTo (xorG a b) a.length) := by
  intro d
  induction d with
  | zero =>
    intro i h
    refine evSucc ?_
    simp only [spec_l03Xor.l0]
    refine evNeg (by omega) (evNow ?_)
    rw [show i = a.length by omega]
  | succ d ih =>
    intro i h
    refine evSucc ?_
    simp only [spec_l03Xor.l0]
    refine evPos (by omega) (evPos (by omega) (evPos (by omega) (evPos (by rw [upTo_length]; omega) ?_)))
    rw [w64succ i (by omega)]
    have := ih (i + 1) (by omega)
    rw [upTo_succ] at this
    exact this
theorem xorS (a b : List Int) (hl : a.length ≤ b.length) (ha : a.length < 1000000000) : Ev (fun k => spec_l03Xor.f k a b) (upTo (xorG a b) a.length) := by
  unfold spec_l03Xor.f
  exact xorS_loop a b hl ha a.length 0 (by omega)
/-! ### the nonce -/
def nonceP (iv : List Int) (num : Int) : List Int := upTo (xorG (digits num 8) iv) 8
theorem nonceP_length (iv : List Int) (num : Int) : (nonceP iv num).length = 8 := upTo_length _ _
theorem nonceI (a b iv m : List Int) (num : Int) (hiv : iv.length = 8) (h0 : 0 ≤ num) (h1 : num ≤ 9223372036854775807) : Ev (fun k => impl_nonceOf.f k a b iv m num) (nonceP iv num) := by
  have loop : ∀ (d i : Nat), i + d = 8 → Ev (fun k => impl_nonceOf.l0 k (upTo (xorG (digits num 8) iv) i ++ (digits num 8).drop i) 8 (i : Int) a b iv m) (nonceP iv num) := by
    intro d
    induction d with
    | zero =>
      intro i h
      refine evSucc ?_
      simp only [impl_nonceOf.l0]
      refine evNeg (by omega) (evNow ?_)
      obtain rfl : i = 8 := by omega
      rw [List.drop_eq_nil_of_le (by rw [digits_length]; omega), List.append_nil]
      rfl
    | succ d ih =>
      intro i h
      refine evSucc ?_
      simp only [impl_nonceOf.l0]
      have hd : (digits num 8).length = 8 := digits_length 8 num
      refine evPos (by omega) (evPos (by omega) (evPos (by rw [nextLength _ _ _ (by omega)]; omega) (evPos (by omega) ?_)))
      rw [rdNext _ _ _ (by omega), w64succ i (by omega), Int.toNat_natCast]
      have e := setNext (xorG (digits num 8) iv) (digits num 8) i (by omega)
      have h := ih (i + 1) (by omega)
      rw [← e] at h
      exact h
  unfold impl_nonceOf.f
  have hf := fixF 8 [] num (by decide) (by decide) h0 h1
  rw [List.nil_append] at hf
  refine evBind hf ?_
  rw [digits_length]
  have := loop 8 0 (by decide)
  exact this
theorem nonceS (iv : List Int) (num : Int) (hiv : iv.length = 8) : Ev (fun k => spec_l03Xor.f k iv (digits num 8)) (nonceP iv num) := by
  have h := xorS iv (digits num 8) (by rw [digits_length]; omega) (by omega)
  rw [hiv] at h
  rw [show nonceP iv num = upTo (xorG iv (digits num 8)) 8 from upTo_same (fun i _ => xorComm _ _)]
  exact h
/-! ### the stream over a body -/
def blockP (key nonce : List Int) (j : Nat) : List Int := digP key (nonce ++ digits (j : Int) 4)
theorem blockP_length (key nonce : List Int) (j : Nat) : (blockP key nonce j).length = 16 := digP_length _ _
def strG (key nonce body : List Int) (i : Nat) : Int := Go.bits .xor .u8 (rd body (i : Int)) (rd (blockP key nonce (i / 16)) ((i % 16 : Nat) : Int))
def streamP (key nonce body : List Int) : List Int := upTo (strG key nonce body) body.length
theorem streamP_length (key nonce body : List Int) : (streamP key nonce body).length = body.length := upTo_length _ _
theorem streamI_loop (s key iv m nonce body : List Int) (hk : key.length ≤ 1000) (hn : nonce.length ≤ 1000) (hb : body.length ≤ 100000000) : ∀ (d i : Nat) (x8 : List Int), i + d = body.length → (i % 16 ≠ 0 → x8 = blockP key nonce (i / 16)) →
    Ev (fun k => impl_streamed.l0 k nonce (upTo (strG key nonce body) i ++ body.drop i) x8 (body.length : Int) (i : Int) s key iv m) (streamP key nonce body) := by
  intro d
  induction d with
  | zero =>
    intro i x8 h _
    refine evSucc ?_
    simp only [impl_streamed.l0]
    refine evNeg (by omega) (evNow ?_)
    obtain rfl : i = body.length := by omega
    rw [List.drop_eq_nil_of_le (by omega), List.append_nil]
    rfl
  | succ d ih =>
    intro i x8 h h8
    have em : Int.tmod (i : Int) 16 = ((i % 16 : Nat) : Int) := by rw [Int.tmod_eq_emod_of_nonneg (by omega)]; omega
    have ed : Int.tdiv (i : Int) 16 = ((i / 16 : Nat) : Int) := by rw [Int.tdiv_eq_ediv_of_nonneg (by omega)]; omega
    have hl := nextLength (strG key nonce body) body i (by omega)
    have go : ∀ x8' : List Int, x8' = blockP key nonce (i / 16) → Ev (fun k => if 0 ≤ (i : Int) then (if (i : Int) < ((upTo (strG key nonce body) i ++ body.drop i).length : Int) then (if 0 ≤ Int.tmod (i : Int) 16 then (if Int.tmod (i : Int) 16 < (x8'.length : Int) then impl_streamed.l0 k nonce ((upTo (strG key nonce body) i ++ body.drop i).set (i : Int).toNat (Go.bits .xor .u8 (rd (upTo (strG key nonce body) i ++ body.drop i) (i : Int)) (rd x8' (Int.tmod (i : Int) 16)))) x8' (body.length : Int) (wrap64 ((i : Int) + 1)) s key iv m else none) else none) else none) else none) (streamP key nonce body) := by
      intro x8' hx
      subst hx
      rw [em, rdNext _ _ _ (by omega), w64succ i (by omega), Int.toNat_natCast, hl]
      refine evPos (by omega) (evPos (by omega) (evPos (by omega) (evPos (by rw [blockP_length]; omega) ?_)))
      have e := setNext (strG key nonce body) body i (by omega)
      have hh := ih (i + 1) (blockP key nonce (i / 16)) (by omega) (fun h0 => by rw [show (i + 1) / 16 = i / 16 by omega])
      rw [← e] at hh
      exact hh
    refine evSucc ?_
    simp only [impl_streamed.l0]
    refine evPos (by omega) (evSplit (fun h0 => ?_) (fun h0 => ?_))
    · refine evPut rfl (evPos (by simp; omega) ?_)
      rw [ed, w64 (x := ((i / 16 : Nat) : Int)) (by omega) (by omega), List.nil_append]
      refine evBind (fixF 4 nonce _ (by decide) (by omega) (by omega) (by omega)) (evBind (digI key _ (by omega) (by simp [digits_length]; omega)) ?_)
      exact go _ rfl
    · exact go x8 (h8 (by omega))
theorem streamI (s key iv m nonce body : List Int) (hk : key.length ≤ 1000) (hn : nonce.length ≤ 1000) (hb : body.length ≤ 100000000) : Ev (fun k => impl_streamed.f k s key iv m nonce body) (streamP key nonce body) := by
  unfold impl_streamed.f
  refine evPut rfl (evPos (by simp; omega) (evPut rfl ?_))
  rw [List.nil_append]
  have := streamI_loop s key iv m nonce body hk hn hb body.length 0 [] (by omega) (fun h => absurd rfl h)
  exact this
def strP (key nonce : List Int) : Nat → List Int
  | 0 => []
  | j + 1 => strP key nonce j ++ blockP key nonce j
theorem strP_length (key nonce : List Int) : ∀ j, (strP key nonce j).length = 16 * j
  | 0 => rfl
  | j + 1 => by simp only [strP, List.length_append, strP_length key nonce j, blockP_length]; omega
theorem strP_rd (key nonce : List Int) : ∀ (J i : Nat), i < 16 * J → rd (strP key nonce J) (i : Int) = rd (blockP key nonce (i / 16)) ((i % 16 : Nat) : Int)
  | 0, i, h => by omega
  | J + 1, i, h => by
    have hl := strP_length key nonce J
    by_cases hi : i < 16 * J
    · rw [← strP_rd key nonce J i hi]
      simp only [rd, strP, List.getD_eq_getElem?_getD, Int.toNat_natCast]
      rw [List.getElem?_append_left (by omega)]
    · have e1 : i / 16 = J := by omega
      have e2 : i - 16 * J = i % 16 := by omega
      simp only [rd, strP, List.getD_eq_getElem?_getD, Int.toNat_natCast]
      rw [List.getElem?_append_right (by omega), hl, e1, e2]
theorem strS_loop (s key iv m nonce : List Int) (n : Nat) (hk : key.length ≤ 1000) (hn : nonce.length ≤ 1000) (hb : n ≤ 100000000) : ∀ (d j : Nat), j + d = (n + 15) / 16 →
    Ev (fun k => spec_l03Stream.l0 k nonce (n : Int) (strP key nonce j) (j : Int) s key iv m) (strP key nonce ((n + 15) / 16)) := by
  intro d
  induction d with
  | zero =>
    intro j h
    have hl := strP_length key nonce j
    refine evSucc ?_
    simp only [spec_l03Stream.l0]
    refine evNeg (by omega) (evNow ?_)
    rw [show j = (n + 15) / 16 by omega]
  | succ d ih =>
    intro j h
    have hl := strP_length key nonce j
    refine evSucc ?_
    simp only [spec_l03Stream.l0]
    refine evPos (by omega) (evBind (digS 4 _ (by decide) (by omega) (by omega)) ?_)
    have hc : spec_l03Cat.f nonce (digits (j : Int) 4) = some (nonce ++ digits (j : Int) 4) := by
      unfold spec_l03Cat.f
      simp only [Option.bind_some, List.nil_append, List.length_nil]
      rw [if_pos (by omega), if_pos (by rw [digits_length]; omega)]
    refine evPut hc (evBind (digSp key _ (by omega) (by simp [digits_length]; omega)) (evPos (by rw [hl, digP_length]; omega) ?_))
    rw [w64succ j (by omega)]
    exact ih (j + 1) (by omega)
theorem strS (s key iv m nonce : List Int) (n : Nat) (hk : key.length ≤ 1000) (hn : nonce.length ≤ 1000) (hb : n ≤ 100000000) : Ev (fun k => spec_l03Stream.f k s key iv m nonce (n : Int)) (strP key nonce ((n + 15) / 16)) := by
  unfold spec_l03Stream.f
  exact strS_loop s key iv m nonce n hk hn hb ((n + 15) / 16) 0 (by omega)
theorem cipherS (key nonce body : List Int) (hb : body.length ≤ 100000000) : Ev (fun k => spec_l03Xor.f k body (strP key nonce ((body.length + 15) / 16))) (streamP key nonce body) := by
  have hl := strP_length key nonce ((body.length + 15) / 16)
  have h := xorS body (strP key nonce ((body.length + 15) / 16)) (by omega) (by omega)
  rw [show streamP key nonce body = upTo (xorG body (strP key nonce ((body.length + 15) / 16))) body.length from upTo_same (fun i hi => by
    unfold strG xorG
    rw [strP_rd key nonce _ i (by omega)])]
  exact h
/-! ### the tag -/
def tagP (key nonce head body : List Int) : List Int := (digP key (nonce ++ [255, 255, 255, 255] ++ digits (head.length : Int) 4 ++ head ++ body)).take 8
theorem tagP_length (key nonce head body : List Int) : (tagP key nonce head body).length = 8 := by
  unfold tagP
  rw [List.length_take, digP_length]
  rfl
theorem tagI (s key iv m nonce head body : List Int) (hk : key.length ≤ 1000) (hn : nonce.length ≤ 1000) (hh : head.length ≤ 100000000) (hb : body.length ≤ 100000000) : Ev (fun k => impl_tagOf.f k s key iv m nonce head body) (tagP key nonce head body) := by
  have h4 : ([255, 255, 255, 255] : List Int).length = 4 := rfl
  unfold impl_tagOf.f
  refine evPut rfl (evPos (by simp; omega) (evPut rfl (evPut rfl (evPos (by simp; omega) ?_))))
  rw [List.nil_append]
  refine evBind (fixF 4 _ _ (by decide) (by simp; omega) (by omega) (by omega)) (evPos (by simp [digits_length]; omega) (evPut rfl (evPos (by simp [digits_length]; omega) ?_)))
  refine evBind (digI key _ (by omega) (by simp [digits_length]; omega)) (evPos (by rw [digP_length]; omega) (evNow rfl))
theorem tagS (s key iv m nonce head body : List Int) (hk : key.length ≤ 1000) (hn : nonce.length ≤ 1000) (hh : head.length ≤ 100000000) (hb : body.length ≤ 100000000) : Ev (fun k => spec_l03Tag.f k s key iv m nonce head body) (tagP key nonce head body) := by
  have hc : spec_l03Cat.f nonce ([255, 255, 255, 255] : List Int) = some (nonce ++ [255, 255, 255, 255]) := by
    unfold spec_l03Cat.f
    simp only [Option.bind_some, List.nil_append, List.length_nil]
    rw [if_pos (by omega), if_pos (by simp; omega)]
  unfold spec_l03Tag.f
  refine evPut hc (evBind (digS 4 _ (by decide) (by omega) (by omega)) (evPos (by simp [digits_length]; omega) (evPut rfl (evPos (by simp [digits_length]; omega) (evPut rfl (evPos (by simp [digits_length]; omega) ?_))))))
  refine evBind (digSp key _ (by omega) (by simp [digits_length]; omega)) (evPos (by rw [digP_length]; omega) (evNow rfl))
/-! ### the seal -/
def keysFit (s key iv m : List Int) : Prop := s.length = 16 ∧ key.length = 16 ∧ iv.length = 8 ∧ m.length = 16
instance (s key iv m : List Int) : Decidable (keysFit s key iv m) := by unfold keysFit; infer_instance
theorem keysFit_iff (s key iv m : List Int) : keysFit s key iv m ↔ (s.length = 16 ∧ key.length = 16 ∧ iv.length = 8 ∧ m.length = 16) := Iff.rfl
theorem keysFitI (s key iv m : List Int) : impl_keysOK.f s key iv m = some (decide (keysFit s key iv m)) := by
  have hi := keysFit_iff s key iv m
  unfold impl_keysOK.f
  split
  · split
    · split
      · congr 1
        rw [Bool.eq_iff_iff, beq_iff_eq, decide_eq_true_eq, hi]
        constructor <;> intro hh <;> omega
      · congr 1; symm; apply decide_eq_false; rw [hi]; omega
    · congr 1; symm; apply decide_eq_false; rw [hi]; omega
  · congr 1; symm; apply decide_eq_false; rw [hi]; omega
theorem keysFitS (s key iv m : List Int) : spec_l03KeysOK.f s key iv m = some (decide (keysFit s key iv m)) := by
  have hi := keysFit_iff s key iv m
  unfold spec_l03KeysOK.f
  split
  · split
    · split
      · congr 1
        rw [Bool.eq_iff_iff, beq_iff_eq, decide_eq_true_eq, hi]
        constructor <;> intro hh <;> omega
      · congr 1; symm; apply decide_eq_false; rw [hi]; omega
    · congr 1; symm; apply decide_eq_false; rw [hi]; omega
  · congr 1; symm; apply decide_eq_false; rw [hi]; omega
theorem inVarI (x : Int) : impl_inVar.f x = some (decide (0 ≤ x ∧ x ≤ 4611686018427387903)) := by
  unfold impl_inVar.f
  split
  · congr 1; rw [Bool.eq_iff_iff]; simp; omega
  · congr 1; symm; apply decide_eq_false; omega

def sealP (s key iv m : List Int) (num : Int) (head body : List Int) : List Int × Int :=
  if keysFit s key iv m ∧ 0 ≤ num ∧ num ≤ 4611686018427387903 then
    if head.length + body.length > 1500 then ([], 4)
    else (streamP key (nonceP iv num) body ++ tagP key (nonceP iv num) head (streamP key (nonceP iv num) body), 0)
  else ([], 1)
theorem sealI_go (s key iv m : List Int) (num : Int) (head body : List Int) (hh : head.length ≤ 100000000) (hb : body.length ≤ 100000000) (h : keysFit s key iv m) (h0 : 0 ≤ num) (h1 : num ≤ 4611686018427387903) :
    Ev (fun k => impl_Seal.j0 k num head body false s key iv m) (sealP s key iv m num head body) := by
  have hk := h
  unfold keysFit at hk
  refine evSucc ?_
  simp only [impl_Seal.j0]
  unfold sealP
  rw [if_pos ⟨h, h0, h1⟩, w64 (x := (head.length : Int) + (body.length : Int)) (by omega) (by omega)]
  refine evNeg (by simp) (evSplit (fun hc => ?_) (fun hc => ?_))
  · rw [if_pos (by omega)]
    exact Ev.now _
  · rw [if_neg (by omega)]
    have hn := nonceP_length iv num
    have hl := streamP_length key (nonceP iv num) body
    refine evBind (nonceI s key iv m num (by omega) h0 (by omega)) (evBind (streamI s key iv m _ body (by omega) (by omega) hb) (evBind (tagI s key iv m _ head _ (by omega) (by omega) hh (by omega)) (evPos (by rw [hl, tagP_length]; omega) (Ev.now _))))
theorem sealI (s key iv m : List Int) (num : Int) (head body : List Int) (hh : head.length ≤ 100000000) (hb : body.length ≤ 100000000) : Ev (fun k => impl_Seal.f k s key iv m num head body) (sealP s key iv m num head body) := by
  have bad : ¬ (keysFit s key iv m ∧ 0 ≤ num ∧ num ≤ 4611686018427387903) → Ev (fun k => impl_Seal.j0 k num head body true s key iv m) (sealP s key iv m num head body) := by
    intro hn
    refine evSucc ?_
    simp only [impl_Seal.j0]
    unfold sealP
    rw [if_neg hn]
    exact evPos (by first | rfl | trivial) (Ev.now _)
  unfold impl_Seal.f
  by_cases h : keysFit s key iv m
  · refine evPut (keysFitI s key iv m) (evPos (decide_eq_true h) (evPut (inVarI num) ?_))
    by_cases h2 : 0 ≤ num ∧ num ≤ 4611686018427387903
    · rw [decide_eq_true h2]
      exact sealI_go s key iv m num head body hh hb h h2.1 h2.2
    · rw [decide_eq_false h2]
      exact bad (fun hh => h2 hh.2)
  · refine evPut (keysFitI s key iv m) (evNeg (by simp [h]) ?_)
    exact bad (fun hh => h hh.1)
theorem sealS (s key iv m : List Int) (num : Int) (head body : List Int) (hh : head.length ≤ 100000000) (hb : body.length ≤ 100000000) : Ev (fun k => spec_Seal.f k s key iv m num head body) (sealP s key iv m num head body) := by
  have bad : ¬ (keysFit s key iv m ∧ 0 ≤ num ∧ num ≤ 4611686018427387903) → Ev (fun k => spec_Seal.j0 k num head body true s key iv m) (sealP s key iv m num head body) := by
    intro hn
    refine evSucc ?_
    simp only [spec_Seal.j0]
    unfold sealP
    rw [if_neg hn]
    exact evPos (by first | rfl | trivial) (Ev.now _)
  unfold spec_Seal.f
  by_cases h : keysFit s key iv m
  · have hk := h
    unfold keysFit at hk
    refine evPut (keysFitS s key iv m) (evPos (decide_eq_true h) (evSplit (fun h0 => ?_) (fun h0 => ?_)))
    · exact bad (fun hh => by omega)
    · by_cases h2 : num ≤ 4611686018427387903
      · rw [decide_eq_false (show ¬ num > 4611686018427387903 by omega)]
        refine evSucc ?_
        simp only [spec_Seal.j0]
        unfold sealP
        rw [if_pos ⟨h, by omega, h2⟩, w64 (x := (head.length : Int) + (body.length : Int)) (by omega) (by omega)]
        refine evNeg (by simp) (evSplit (fun hc => ?_) (fun hc => ?_))
        · rw [if_pos (by omega)]
          exact Ev.now _
        · rw [if_neg (by omega)]
          have hn := nonceP_length iv num
          have hl := streamP_length key (nonceP iv num) body
          refine evBind (digS 8 num (by decide) (by omega) (by omega)) (evBind (nonceS iv num (by omega)) (evBind (strS s key iv m _ body.length (by omega) (by omega) hb) (evBind (cipherS key _ body hb) (evBind (tagS s key iv m _ head _ (by omega) (by omega) hh (by omega)) (evPos (by rw [hl, tagP_length]; omega) (Ev.now _))))))
      · rw [decide_eq_true (show num > 4611686018427387903 by omega)]
        exact bad (fun hh => by omega)
  · refine evPut (keysFitS s key iv m) (evNeg (by simp [h]) ?_)
    exact bad (fun hh => h hh.1)

/-! ### the seal opened -/
def openP (s key iv m : List Int) (num : Int) (head sealed : List Int) : List Int × Int :=
  if keysFit s key iv m ∧ 0 ≤ num ∧ num ≤ 4611686018427387903 then
    if head.length + sealed.length > 1508 then ([], 4)
    else if sealed.length < 8 then ([], 2)
    else if (strOfNums (tagP key (nonceP iv num) head (sealed.take (sealed.length - 8)))).toList = (strOfNums (sealed.drop (sealed.length - 8))).toList then (streamP key (nonceP iv num) (sealed.take (sealed.length - 8)), 0)
    else ([], 5)
  else ([], 1)
theorem openI (s key iv m : List Int) (num : Int) (head sealed : List Int) (hh : head.length ≤ 100000000) (hb : sealed.length ≤ 100000000) : Ev (fun k => impl_OpenSealed.f k s key iv m num head sealed) (openP s key iv m num head sealed) := by
  have bad : ¬ (keysFit s key iv m ∧ 0 ≤ num ∧ num ≤ 4611686018427387903) → Ev (fun k => impl_OpenSealed.j0 k num head sealed true s key iv m) (openP s key iv m num head sealed) := by
    intro hn
    refine evSucc ?_
    simp only [impl_OpenSealed.j0]
    unfold openP
    rw [if_neg hn]
    exact evPos (by first | rfl | trivial) (Ev.now _)
  unfold impl_OpenSealed.f
  by_cases h : keysFit s key iv m
  · have hk := h
    rw [keysFit_iff] at hk
    refine evPut (keysFitI s key iv m) (evPos (decide_eq_true h) (evPut (inVarI num) ?_))
    by_cases h2 : 0 ≤ num ∧ num ≤ 4611686018427387903
    · rw [decide_eq_true h2]
      refine evSucc ?_
      simp only [impl_OpenSealed.j0]
      unfold openP
      rw [if_pos ⟨h, h2⟩, w64 (x := (head.length : Int) + (sealed.length : Int)) (by omega) (by omega), w64 (x := (sealed.length : Int) - 8) (by omega) (by omega)]
      refine evNeg (by simp) (evSplit (fun hc => ?_) (fun hc => ?_))
      · rw [if_pos (by omega)]
        exact Ev.now _
      · rw [if_neg (by omega)]
        refine evSplit (fun hd => ?_) (fun hd => ?_)
        · rw [if_pos (by omega)]
          exact Ev.now _
        · rw [if_neg (by omega)]
          have e1 : ((sealed.length : Int) - 8).toNat = sealed.length - 8 := by omega
          have e2 : (sealed.take (sealed.length - 8)).length = sealed.length - 8 := by rw [List.length_take]; omega
          have hn := nonceP_length iv num
          rw [e1, e2, Int.toNat_natCast]
          refine evBind (nonceI s key iv m num (by omega) h2.1 (by omega)) (evPos (by omega) (evPos (by omega) (evBind (tagI s key iv m _ head _ (by omega) (by omega) hh (by omega)) (evPos (by omega) (evPos (by omega) (evSplit (fun ht => ?_) (fun ht => ?_)))))))
          · rw [if_pos ht]
            exact evBind (streamI s key iv m _ _ (by omega) (by omega) (by omega)) (Ev.now _)
          · rw [if_neg ht]
            exact Ev.now _
    · rw [decide_eq_false h2]
      exact bad (fun hh => h2 hh.2)
  · refine evPut (keysFitI s key iv m) (evNeg (by simp [h]) ?_)
    exact bad (fun hh => h hh.1)
theorem openS (s key iv m : List Int) (num : Int) (head sealed : List Int) (hh : head.length ≤ 100000000) (hb : sealed.length ≤ 100000000) : Ev (fun k => spec_OpenSealed.f k s key iv m num head sealed) (openP s key iv m num head sealed) := by
  have bad : ¬ (keysFit s key iv m ∧ 0 ≤ num ∧ num ≤ 4611686018427387903) → Ev (fun k => spec_OpenSealed.j0 k num head sealed true s key iv m) (openP s key iv m num head sealed) := by
    intro hn
    refine evSucc ?_
    simp only [spec_OpenSealed.j0]
    unfold openP
    rw [if_neg hn]
    exact evPos (by first | rfl | trivial) (Ev.now _)
  unfold spec_OpenSealed.f
  by_cases h : keysFit s key iv m
  · have hk := h
    rw [keysFit_iff] at hk
    refine evPut (keysFitS s key iv m) (evPos (decide_eq_true h) (evSplit (fun h0 => ?_) (fun h0 => ?_)))
    · exact bad (fun hh => by omega)
    · by_cases h2 : num ≤ 4611686018427387903
      · rw [decide_eq_false (show ¬ num > 4611686018427387903 by omega)]
        refine evSucc ?_
        simp only [spec_OpenSealed.j0]
        unfold openP
        rw [if_pos ⟨h, by omega, h2⟩, w64 (x := (head.length : Int) + (sealed.length : Int)) (by omega) (by omega), w64 (x := (sealed.length : Int) - 8) (by omega) (by omega)]
        refine evNeg (by simp) (evSplit (fun hc => ?_) (fun hc => ?_))
        · rw [if_pos (by omega)]
          exact Ev.now _
        · rw [if_neg (by omega)]
          refine evSplit (fun hd => ?_) (fun hd => ?_)
          · rw [if_pos (by omega)]
            exact Ev.now _
          · rw [if_neg (by omega)]
            have e1 : ((sealed.length : Int) - 8).toNat = sealed.length - 8 := by omega
            have e3 : ((sealed.length : Int) - 8) = ((sealed.length - 8 : Nat) : Int) := by omega
            have e2 : (sealed.take (sealed.length - 8)).length = sealed.length - 8 := by rw [List.length_take]; omega
            have hn := nonceP_length iv num
            have hc := cipherS key (nonceP iv num) (sealed.take (sealed.length - 8)) (by omega)
            rw [e2] at hc
            rw [e1]
            refine evBind (digS 8 num (by decide) (by omega) (by omega)) (evBind (nonceS iv num (by omega)) (evPos (by omega) (evPos (by omega) (evBind (tagS s key iv m _ head _ (by omega) (by omega) hh (by omega)) (evSplit (fun ht => ?_) (fun ht => ?_))))))
            · rw [if_pos ht, e3]
              exact evBind (strS s key iv m _ (sealed.length - 8) (by omega) (by omega) (by omega)) (evBind hc (Ev.now _))
            · rw [if_neg ht]
              exact Ev.now _
      · rw [decide_eq_true (show num > 4611686018427387903 by omega)]
        exact bad (fun hh => by omega)
  · refine evPut (keysFitS s key iv m) (evNeg (by simp [h]) ?_)
    exact bad (fun hh => h hh.1)
theorem streamP_byte (key nonce body : List Int) : ∀ x ∈ streamP key nonce body, 0 ≤ x ∧ x ≤ 255 := by
  intro x h
  simp only [streamP, upTo, List.mem_map] at h
  obtain ⟨i, _, rfl⟩ := h
  unfold strG Go.bits
  simp only [IntKind.wrap_u8]
  omega
theorem openP_len (s key iv m : List Int) (num : Int) (head sealed : List Int) : (openP s key iv m num head sealed).1.length ≤ 2000 := by
  unfold openP
  split
  · split
    · simp
    · split
      · simp
      · split
        · simp only [streamP_length, List.length_take]; omega
        · simp
  · simp
theorem openP_byte (s key iv m : List Int) (num : Int) (head sealed : List Int) : ∀ x ∈ (openP s key iv m num head sealed).1, 0 ≤ x ∧ x ≤ 255 := by
  unfold openP
  split
  · split
    · simp
    · split
      · simp
      · split
        · exact streamP_byte _ _ _
        · simp
  · simp

/-! ### the source of drawn choices -/
/-- A state of the source from which at least 'b' bytes more may be drawn. -/
structure Src (code : List Int) (b at_ seed : Int) : Prop where
  len : code.length ≤ 1048576
  byte : ∀ x ∈ code, 0 ≤ x ∧ x ≤ 255
  lo : 0 ≤ at_
  hi : at_ + b ≤ 100000000000
  s0 : 0 ≤ seed
  s1 : seed < 2147483648
theorem Src.less {code : List Int} {b b' at_ seed : Int} (h : Src code b at_ seed) (hb : b' ≤ b) : Src code b' at_ seed := ⟨h.len, h.byte, h.lo, by have := h.hi; omega, h.s0, h.s1⟩
theorem rdBy {b : List Int} (hb : ∀ x ∈ b, 0 ≤ x ∧ x ≤ 255) (i : Int) : 0 ≤ rd b i ∧ rd b i ≤ 255 := by
  unfold rd
  by_cases h : i.toNat < b.length
  · rw [List.getD_eq_getElem?_getD, List.getElem?_eq_getElem h]; exact hb _ (List.getElem_mem h)
  · simp [List.getD_eq_getElem?_getD, List.getElem?_eq_none (Nat.le_of_not_lt h)]
theorem src_byte {code : List Int} {b at_ seed : Int} (hb : 0 ≤ b) (h : Src code (b + 1) at_ seed) : ∃ r s', spec_l01Src_byte.f code at_ seed = some (r, at_ + 1, s') ∧ 0 ≤ r ∧ r ≤ 255 ∧ Src code b (at_ + 1) s' := by
  obtain ⟨h1, h2, h3, h4, h5, h6⟩ := h
  have hr := rdBy h2 at_
  unfold spec_l01Src_byte.f
  rw [if_pos ⟨h3, by omega, h5, h6, by omega⟩]
  by_cases c1 : at_ < (code.length : Int)
  · rw [if_pos c1, if_pos hr]
    exact ⟨_, _, rfl, hr.1, hr.2, h1, h2, by omega, by omega, by omega, by omega⟩
  · rw [if_neg c1]
    by_cases c2 : 4000 + 4 * (code.length : Int) < at_ + 1
    · rw [if_pos c2]
      exact ⟨_, _, rfl, by omega, by omega, h1, h2, by omega, by omega, by omega, by omega⟩
    · rw [if_neg c2]
      exact ⟨_, _, rfl, by omega, by omega, h1, h2, by omega, by omega, by omega, by omega⟩
theorem src_next {code : List Int} {b at_ seed : Int} (n : Int) (hn : n ≤ 2147483648) (hb : 0 ≤ b) (h : Src code (b + 3) at_ seed) :
    ∃ r a' s', spec_l01Src_next.f code at_ seed n = some (r, a', s') ∧ 0 ≤ r ∧ (1 ≤ n → r < n) ∧ (n ≤ 1 → r = 0) ∧ Src code b a' s' := by
  unfold spec_l01Src_next.f
  by_cases c1 : n ≤ 1
  · rw [if_pos c1]
    exact ⟨0, at_, seed, rfl, by omega, by omega, fun _ => rfl, h.less (by omega)⟩
  rw [if_neg c1]
  by_cases c2 : n ≤ 256
  · rw [if_pos c2]
    obtain ⟨r, s', e, h0, h1, h'⟩ := src_byte (b := b + 2) (by omega) (h.less (by omega))
    rw [e]
    simp only [Option.bind_some]
    rw [if_neg (by omega), Int.tmod_eq_emod_of_nonneg h0]
    exact ⟨_, _, _, rfl, Int.emod_nonneg _ (by omega), fun _ => Int.emod_lt_of_pos _ (by omega), by omega, h'.less (by omega)⟩
  · rw [if_neg c2]
    obtain ⟨r1, s1, e1, g0, g1, h1⟩ := src_byte (b := b + 2) (by omega) (h.less (by omega))
    rw [e1]
    simp only [Option.bind_some]
    obtain ⟨r2, s2, e2, g2, g3, h2⟩ := src_byte (b := b + 1) (by omega) (h1.less (by omega))
    rw [e2]
    simp only [Option.bind_some]
    obtain ⟨r3, s3, e3, g4, g5, h3⟩ := src_byte (b := b) hb h2
    rw [e3]
    simp only [Option.bind_some]
    rw [if_neg (by omega), w64 (x := r1 * 65536) (by omega) (by omega), w64 (x := r2 * 256) (by omega) (by omega), w64 (x := r1 * 65536 + r2 * 256) (by omega) (by omega), w64 (x := r1 * 65536 + r2 * 256 + r3) (by omega) (by omega), Int.tmod_eq_emod_of_nonneg (by omega)]
    exact ⟨_, _, _, rfl, Int.emod_nonneg _ (by omega), fun _ => Int.emod_lt_of_pos _ (by omega), by omega, h3⟩
theorem src_chance {code : List Int} {b at_ seed : Int} (n : Int) (hn : n ≤ 2147483648) (hb : 0 ≤ b) (h : Src code (b + 3) at_ seed) :
    ∃ r a' s', spec_l01Src_chance.f code at_ seed n = some (r, a', s') ∧ Src code b a' s' := by
  unfold spec_l01Src_chance.f
  obtain ⟨r, a', s', e, _, _, _, h'⟩ := src_next n hn hb h
  rw [e]
  exact ⟨_, _, _, rfl, h'⟩
theorem src_start (code : List Int) (h1 : code.length ≤ 1048576) (h2 : ∀ x ∈ code, 0 ≤ x ∧ x ≤ 255) : Src code 99999999999 0 ((code.length : Int) % 1000) := ⟨h1, h2, by omega, by omega, by omega, by omega⟩

theorem src_bytes_loop {code : List Int} : ∀ (d i : Nat) (n : Int) (acc : List Int) (b at_ seed : Int), (i : Int) + d = n → i + d ≤ 1000 → acc.length = i → i ≤ 1000 → (∀ x ∈ acc, 0 ≤ x ∧ x ≤ 255) → 0 ≤ b → Src code (b + d) at_ seed →
    ∃ r a' s', Ev (fun k => spec_l01Src_bytes.l0 k n acc (i : Int) code at_ seed) (r, a', s') ∧ r.length = i + d ∧ (∀ x ∈ r, 0 ≤ x ∧ x ≤ 255) ∧ Src code b a' s' := by
  intro d
  induction d with
  | zero =>
    intro i n acc b at_ seed h hd hl hi hx hb hS
    refine ⟨acc, at_, seed, evSucc ?_, by omega, hx, hS.less (by omega)⟩
    simp only [spec_l01Src_bytes.l0]
    exact evNeg (by omega) (Ev.now _)
  | succ d ih =>
    intro i n acc b at_ seed h hd hl hi hx hb hS
    by_cases hi2 : i + 1 ≤ 1000
    · obtain ⟨v, s1, e1, v0, v1, h1⟩ := src_byte (b := b + d) (by omega) (hS.less (by omega))
      obtain ⟨r, a', s', e2, hr, hxr, h2⟩ := ih (i + 1) n (acc ++ [v % 256]) b (at_ + 1) s1 (by omega) (by omega) (by simp [hl]) hi2 (by
        intro x hxx
        rw [List.mem_append, List.mem_singleton] at hxx
        rcases hxx with hxx | rfl
        · exact hx x hxx
        · omega) hb h1
      refine ⟨r, a', s', evSucc ?_, by omega, hxr, h2⟩
      simp only [spec_l01Src_bytes.l0]
      rw [w64succ i (by omega)]
      exact evPos (by omega) (evPut e1 (evPos (by omega) e2))
    · exact absurd hi2 (by omega)
theorem src_bytes {code : List Int} {b at_ seed : Int} (n : Int) (hn : n ≤ 100) (hb : 0 ≤ b) (h : Src code (b + 100) at_ seed) :
    ∃ r a' s', Ev (fun k => spec_l01Src_bytes.f k code at_ seed n) (r, a', s') ∧ (r.length : Int) ≤ 100 ∧ (∀ x ∈ r, 0 ≤ x ∧ x ≤ 255) ∧ Src code b a' s' := by
  unfold spec_l01Src_bytes.f
  by_cases h0 : 0 ≤ n
  · obtain ⟨r, a', s', e, hr, hx, h'⟩ := src_bytes_loop n.toNat 0 n [] b at_ seed (by omega) (by omega) rfl (by omega) (by simp) hb (h.less (by omega))
    exact ⟨r, a', s', e, by omega, hx, h'⟩
  · refine ⟨[], at_, seed, evSucc ?_, by simp, by simp, h.less (by omega)⟩
    simp only [spec_l01Src_bytes.l0]
    exact evNeg (by omega) (Ev.now _)

theorem src_number {code : List Int} {b at_ seed : Int} (hb : 0 ≤ b) (h : Src code (b + 9) at_ seed) :
    ∃ r a' s', Ev (fun k => spec_l01Src_number.f k code at_ seed) (r, a', s') ∧ -9223372036854775808 ≤ r ∧ r ≤ 9223372036854775807 ∧ Src code b a' s' := by
  obtain ⟨r1, a1, s1, e1, p1, q1, _, h1⟩ := src_next (b := b + 6) 12 (by omega) (by omega) (h.less (by omega))
  have q1 := q1 (by omega)
  unfold spec_l01Src_number.f
  by_cases c0 : r1 = 0
  · obtain ⟨r2, a2, s2, e2, p2, q2, _, h2⟩ := src_next (b := b + 3) 9 (by omega) (by omega) (h1.less (by omega))
    have q2 := q2 (by omega)
    refine ⟨rd [0, 63, 64, 16383, 16384, 1073741823, 1073741824, 4611686018427387903, 4611686018427387902] r2, a2, s2, evPut e1 (evPos c0 (evPut rfl (evPut e2 (evPos p2 (evPos (by simpa using q2) (evNow rfl)))))), ?_, ?_, h2.less (by omega)⟩
    · rcases (by omega : r2 = 0 ∨ r2 = 1 ∨ r2 = 2 ∨ r2 = 3 ∨ r2 = 4 ∨ r2 = 5 ∨ r2 = 6 ∨ r2 = 7 ∨ r2 = 8) with rfl | rfl | rfl | rfl | rfl | rfl | rfl | rfl | rfl <;> simp [rd]
    · rcases (by omega : r2 = 0 ∨ r2 = 1 ∨ r2 = 2 ∨ r2 = 3 ∨ r2 = 4 ∨ r2 = 5 ∨ r2 = 6 ∨ r2 = 7 ∨ r2 = 8) with rfl | rfl | rfl | rfl | rfl | rfl | rfl | rfl | rfl <;> simp [rd]
  by_cases c1 : r1 = 1
  · obtain ⟨r2, a2, s2, e2, p2, q2, _, h2⟩ := src_next (b := b + 3) 16777216 (by omega) (by omega) (h1.less (by omega))
    have q2 := q2 (by omega)
    obtain ⟨r3, a3, s3, e3, p3, q3, _, h3⟩ := src_next (b := b) 65536 (by omega) (by omega) (h2.less (by omega))
    have q3 := q3 (by omega)
    refine ⟨r2 * 65536 + r3, a3, s3, evPut e1 (evNeg c0 (evPos c1 (evPut e2 (evPut e3 (evNow ?_))))), by omega, by omega, h3⟩
    rw [w64 (x := r2 * 65536) (by omega) (by omega), w64 (by omega) (by omega)]
  by_cases c2 : r1 = 2
  · obtain ⟨r2, a2, s2, e2, p2, q2, _, h2⟩ := src_next (b := b + 3) 4 (by omega) (by omega) (h1.less (by omega))
    have q2 := q2 (by omega)
    refine ⟨rd [(-1), 4611686018427387904, 9223372036854775807, (-9223372036854775808)] r2, a2, s2, evPut e1 (evNeg c0 (evNeg c1 (evPos c2 (evPut rfl (evPut e2 (evPos p2 (evPos (by simpa using q2) (evNow rfl)))))))), ?_, ?_, h2.less (by omega)⟩
    · rcases (by omega : r2 = 0 ∨ r2 = 1 ∨ r2 = 2 ∨ r2 = 3) with rfl | rfl | rfl | rfl <;> simp [rd]
    · rcases (by omega : r2 = 0 ∨ r2 = 1 ∨ r2 = 2 ∨ r2 = 3) with rfl | rfl | rfl | rfl <;> simp [rd]
  have tail : ∀ x : Bool, ∃ r a' s', Ev (fun k => spec_l01Src_number.j0 k x code a1 s1) (r, a', s') ∧ -9223372036854775808 ≤ r ∧ r ≤ 9223372036854775807 ∧ Src code b a' s' := by
    intro x
    obtain ⟨r2, a2, s2, e2, p2, q2, _, h2⟩ := src_next (b := b) 20000 (by omega) (by omega) (h1.less (by omega))
    have q2 := q2 (by omega)
    obtain ⟨r3, a3, s3, e3, p3, q3, _, h3⟩ := src_next (b := b) 100 (by omega) (by omega) (h1.less (by omega))
    have q3 := q3 (by omega)
    cases x with
    | true =>
      refine ⟨r2, a2, s2, evSucc ?_, by omega, by omega, h2⟩
      simp only [spec_l01Src_number.j0]
      exact evPos (by first | rfl | trivial) (evPut e2 (evNow rfl))
    | false =>
      refine ⟨r3, a3, s3, evSucc ?_, by omega, by omega, h3⟩
      simp only [spec_l01Src_number.j0]
      exact evNeg (by simp) (evPut e3 (evNow rfl))
  by_cases c3 : r1 = 3
  · obtain ⟨r, a', s', e, hh⟩ := tail (r1 == 3)
    exact ⟨r, a', s', evPut e1 (evNeg c0 (evNeg c1 (evNeg c2 (evPos c3 e)))), hh⟩
  · obtain ⟨r, a', s', e, hh⟩ := tail (r1 == 4)
    exact ⟨r, a', s', evPut e1 (evNeg c0 (evNeg c1 (evNeg c2 (evNeg c3 e)))), hh⟩

/-! ### what is sealed comes back -/
theorem xorTwice (a b : Int) (h0 : 0 ≤ a) (h1 : a ≤ 255) (h2 : 0 ≤ b) (h3 : b ≤ 255) : Go.bits .xor .u8 (Go.bits .xor .u8 a b) b = a := by
  have hlt : a.toNat ^^^ b.toNat < 256 := Nat.xor_lt_two_pow (n := 8) (by omega) (by omega)
  rw [Go.u8_xor a b h0 (by omega) h2 (by omega), Go.u8_xor _ b (by omega) (by omega) h2 (by omega), Int.toNat_natCast, Nat.xor_assoc, Nat.xor_self, Nat.xor_zero]
  omega
theorem streamTwice (key nonce body : List Int) (hb : ∀ x ∈ body, 0 ≤ x ∧ x ≤ 255) : streamP key nonce (streamP key nonce body) = body := by
  apply List.ext_getElem
  · rw [streamP_length, streamP_length]
  · intro i h1 h2
    have hi : i < body.length := h2
    have e1 : ∀ (b : List Int) (h : i < (streamP key nonce b).length), (streamP key nonce b)[i]'h = strG key nonce b i := by
      intro b h
      simp [streamP, upTo]
    rw [e1]
    have hr : rd (streamP key nonce body) (i : Int) = strG key nonce body i := by
      rw [rdN _ i (by rw [streamP_length]; exact hi), e1]
    unfold strG at hr ⊢
    rw [hr, rdN body i hi]
    have hk := rdBy (b := blockP key nonce (i / 16)) (fun x hx => digP_byte _ _ x hx) ((i % 16 : Nat) : Int)
    exact xorTwice _ _ (hb _ (List.getElem_mem hi)).1 (hb _ (List.getElem_mem hi)).2 hk.1 hk.2
theorem openSeal (s key iv m : List Int) (num : Int) (head body : List Int) (hb : ∀ x ∈ body, 0 ≤ x ∧ x ≤ 255) (h : (sealP s key iv m num head body).2 = 0) : keysFit s key iv m ∧ openP s key iv m num head (sealP s key iv m num head body).1 = (body, 0) := by
  unfold sealP at h ⊢
  split at h
  · rename_i hk
    split at h
    · exact absurd h (by decide)
    · rename_i hl
      refine ⟨hk.1, ?_⟩
      rw [if_pos hk, if_neg hl]
      unfold openP
      have hlen : (streamP key (nonceP iv num) body ++ tagP key (nonceP iv num) head (streamP key (nonceP iv num) body)).length = body.length + 8 := by rw [List.length_append, streamP_length, tagP_length]
      rw [if_pos hk]
      simp only [hlen]
      rw [if_neg (by omega), if_neg (by omega), show body.length + 8 - 8 = (streamP key (nonceP iv num) body).length by rw [streamP_length]; omega, List.take_left, List.drop_left, if_pos rfl, streamTwice key _ body hb]
  · exact absurd h (by decide)
theorem sealP_len (s key iv m : List Int) (num : Int) (head body : List Int) : (sealP s key iv m num head body).1.length ≤ body.length + 8 := by
  unfold sealP
  split
  · split
    · simp
    · simp only [List.length_append, streamP_length, tagP_length]; omega
  · simp
/-! ### the next keys -/
def tNext : ByteArray := ⟨#[110, 101, 120, 116]⟩
def nextP (s key iv m : List Int) : List Int × List Int × List Int × List Int :=
  if keysFit s key iv m then ((keysP (derP s (bytesOf tNext) 16)).1, (keysP (derP s (bytesOf tNext) 16)).2.1, (keysP (derP s (bytesOf tNext) 16)).2.2.1, m) else ([], [], [], [])
theorem nextI (s key iv m : List Int) : Ev (fun k => impl_NextKeys.f k s key iv m) (nextP s key iv m) := by
  unfold impl_NextKeys.f nextP
  by_cases h : keysFit s key iv m
  · have hk := h
    unfold keysFit at hk
    rw [if_pos h]
    refine evPut (keysFitI s key iv m) (evPos (decide_eq_true h) (evBind (derI s tNext 16 hk.1 (by decide) (by decide) (by decide)) (evBind (keysI _) (evPut rfl (evPos (by simp; omega) (evNow ?_))))))
    simp
  · rw [if_neg h]
    exact evPut (keysFitI s key iv m) (evNeg (by simp [h]) (Ev.now _))
theorem nextS (s key iv m : List Int) : Ev (fun k => spec_NextKeys.f k s key iv m) (nextP s key iv m) := by
  unfold spec_NextKeys.f nextP
  by_cases h : keysFit s key iv m
  · have hk := h
    unfold keysFit at hk
    rw [if_pos h]
    exact evPut (keysFitS s key iv m) (evPos (decide_eq_true h) (evBind (derS s tNext 16 hk.1 (by decide) (by decide) (by decide)) (evBind (keysS _) (evPut (copyS m (by omega)) (Ev.now _)))))
  · rw [if_neg h]
    exact evPut (keysFitS s key iv m) (evNeg (by simp [h]) (Ev.now _))
/-! ### what is drawn -/
theorem src_bytesN {code : List Int} {b at_ seed : Int} (n : Int) (hn : n ≤ 900) (hb : 0 ≤ b) (h : Src code (b + 900) at_ seed) :
    ∃ r a' s', Ev (fun k => spec_l01Src_bytes.f k code at_ seed n) (r, a', s') ∧ (r.length : Int) ≤ 900 ∧ (∀ x ∈ r, 0 ≤ x ∧ x ≤ 255) ∧ Src code b a' s' := by
  unfold spec_l01Src_bytes.f
  by_cases h0 : 0 ≤ n
  · obtain ⟨r, a', s', e, hr, hx, h'⟩ := src_bytes_loop n.toNat 0 n [] b at_ seed (by omega) (by omega) rfl (by omega) (by simp) hb (h.less (by omega))
    exact ⟨r, a', s', e, by omega, hx, h'⟩
  · refine ⟨[], at_, seed, evSucc ?_, by simp, by simp, h.less (by omega)⟩
    simp only [spec_l01Src_bytes.l0]
    exact evNeg (by omega) (Ev.now _)
theorem keysP_len (sec : List Int) : (keysP sec).1.length ≤ 16 ∧ (keysP sec).2.1.length ≤ 16 ∧ (keysP sec).2.2.1.length ≤ 8 := by
  unfold keysP
  split
  · rename_i h
    exact ⟨by simp only; omega, by simp only; rw [derP_length _ _ 16 (by decide)]; omega, by simp only; rw [derP_length _ _ 8 (by decide)]; omega⟩
  · exact ⟨by simp, by simp, by simp⟩
theorem keysP_eq (sec : List Int) (h : sec.length = 16) : (keysP sec).1.length = 16 ∧ (keysP sec).2.1.length = 16 ∧ (keysP sec).2.2.1.length = 8 := by
  unfold keysP
  rw [if_pos h]
  exact ⟨h, derP_length _ _ 16 (by decide), derP_length _ _ 8 (by decide)⟩
theorem src_keys {code : List Int} {b at_ seed : Int} (hb : 0 ≤ b) (h : Src code (b + 900) at_ seed) : ∃ s a' s', Ev (fun k => spec_l01Src_keys.f k code at_ seed) ((keysP s).1, (keysP s).2.1, (keysP s).2.2.1, (keysP s).2.2.2, a', s') ∧ s.length = 16 ∧ Src code b a' s' := by
  obtain ⟨r, a', s', e, hr, hx, h'⟩ := src_bytes_loop 16 0 16 [] b at_ seed (by omega) (by omega) rfl (by omega) (by simp) hb (h.less (by omega))
  unfold spec_l01Src_keys.f spec_l01Src_bytes.f
  exact ⟨r, a', s', evBind e (evBind (keysS r) (Ev.now _)), by omega, h'⟩
theorem src_badKeys {code : List Int} {b at_ seed : Int} (hb : 0 ≤ b) (h : Src code (b + 2000) at_ seed) : ∃ s key iv m a' s', Ev (fun k => spec_l01Src_badKeys.f k code at_ seed) (s, key, iv, m, a', s') ∧ Src code b a' s' := by
  obtain ⟨s, a1, s1, e1, hs, h1⟩ := src_keys (b := b + 1100) (by omega) (h.less (by omega))
  obtain ⟨k1, k2, k3⟩ := keysP_eq s hs
  obtain ⟨r2, a2, s2, e2, p2, q2, _, h2⟩ := src_next (b := b + 1000) 12 (by omega) (by omega) (h1.less (by omega))
  unfold spec_l01Src_badKeys.f
  by_cases c0 : r2 = 0
  · obtain ⟨r3, a3, s3, e3, p3, q3, _, h3⟩ := src_next (b := b + 900) 16 (by omega) (by omega) (h2.less (by omega))
    have q3 := q3 (by omega)
    exact ⟨_, _, _, _, _, _, evBind e1 (evPut e2 (evPos c0 (evPut e3 (evPos p3 (evPos (by simp only; omega) (Ev.now _)))))), h3.less (by omega)⟩
  by_cases c1 : r2 = 1
  · exact ⟨_, _, _, _, _, _, evBind e1 (evPut e2 (evNeg c0 (evPos c1 (evPos (by simp only; omega) (Ev.now _))))), h2.less (by omega)⟩
  by_cases c2 : r2 = 2
  · obtain ⟨r3, a3, s3, e3, p3, q3, _, h3⟩ := src_next (b := b + 900) 8 (by omega) (by omega) (h2.less (by omega))
    have q3 := q3 (by omega)
    exact ⟨_, _, _, _, _, _, evBind e1 (evPut e2 (evNeg c0 (evNeg c1 (evPos c2 (evPut e3 (evPos p3 (evPos (by simp only; omega) (Ev.now _)))))))), h3.less (by omega)⟩
  by_cases c3 : r2 = 3
  · obtain ⟨r3, a3, s3, e3, p3, q3, _, h3⟩ := src_next (b := b + 900) 20 (by omega) (by omega) (h2.less (by omega))
    have q3 := q3 (by omega)
    obtain ⟨r4, a4, s4, e4, _, _, h4⟩ := src_bytesN (b := b) r3 (by omega) hb h3
    exact ⟨_, _, _, _, _, _, evBind e1 (evPut e2 (evNeg c0 (evNeg c1 (evNeg c2 (evPos c3 (evPut e3 (evBind e4 (Ev.now _)))))))), h4⟩
  · exact ⟨_, _, _, _, _, _, evBind e1 (evPut e2 (evNeg c0 (evNeg c1 (evNeg c2 (evNeg c3 (Ev.now _)))))), h2.less (by omega)⟩
theorem draw_seal (code : List Int) (h1 : code.length ≤ 1048576) (h2 : ∀ x ∈ code, 0 ≤ x ∧ x ≤ 255) : ∃ s key iv m num head body, Ev (fun k => spec_DrawSeal.f k code) (s, key, iv, m, num, head, body) ∧ -9223372036854775808 ≤ num ∧ num ≤ 9223372036854775807 ∧ head.length ≤ 900 ∧ body.length ≤ 3000 ∧ ∀ x ∈ body, 0 ≤ x ∧ x ≤ 255 := by
  have S0 := src_start code h1 h2
  obtain ⟨s, key, iv, m, a1, s1, e1, g1⟩ := src_badKeys (b := 20000) (by omega) (S0.less (by omega))
  obtain ⟨num, a2, s2, e2, n0, n1, g2⟩ := src_number (b := 19000) (by omega) (g1.less (by omega))
  obtain ⟨r3, a3, s3, e3, p3, q3, _, g3⟩ := src_next (b := 18000) 30 (by omega) (by omega) (g2.less (by omega))
  have q3 := q3 (by omega)
  obtain ⟨head, a4, s4, e4, hl, _, g4⟩ := src_bytesN (b := 17000) r3 (by omega) (by omega) (g3.less (by omega))
  have hw : wrap64 (1 + wrap64 ((code.length : Int) / 12)) = 1 + (code.length : Int) / 12 := by rw [w64 (x := (code.length : Int) / 12) (by omega) (by omega), w64 (by omega) (by omega)]
  obtain ⟨z, hz, hz0, hz1⟩ : ∃ z : Int, mn (wrap64 (1 + wrap64 ((code.length : Int) / 12))) 200 = z ∧ 0 ≤ z ∧ z ≤ 200 := ⟨_, rfl, by rw [hw]; unfold mn; split <;> omega, by unfold mn; split <;> omega⟩
  have e5 : spec_l01Src_size.f code a4 s4 200 = some (z, a4, s4) := by unfold spec_l01Src_size.f; rw [hz]
  obtain ⟨r6, a6, s6, e6, p6, q6, _, g6⟩ := src_next (b := 16000) (z + 1) (by omega) (by omega) (g4.less (by omega))
  have q6 := q6 (by omega)
  obtain ⟨body, a7, s7, e7, bl, bb, g7⟩ := src_bytesN (b := 15000) r6 (by omega) (by omega) (g6.less (by omega))
  obtain ⟨r8, a8, s8, e8, g8⟩ := src_chance (b := 14000) 20 (by omega) (by omega) (g7.less (by omega))
  have e6' : spec_l01Src_next.f code a4 s4 (wrap64 (z + 1)) = some (r6, a6, s6) := by rw [w64 (x := z + 1) (by omega) (by omega)]; exact e6
  unfold spec_DrawSeal.f spec_l03DrawSeal.f spec_l01Source.f
  by_cases hr : r8 = true
  · obtain ⟨r9, a9, s9, e9, p9, q9, _, g9⟩ := src_next (b := 13000) 2 (by omega) (by omega) (g8.less (by omega))
    have q9 := q9 (by omega)
    have hx : mx 0 (wrap64 (wrap64 (1500 - (head.length : Int)) + r9)) = 1500 - (head.length : Int) + r9 := by
      rw [w64 (x := 1500 - (head.length : Int)) (by omega) (by omega), w64 (by omega) (by omega)]
      unfold mx; split <;> omega
    refine ⟨s, key, iv, m, num, head, List.replicate (mx 0 (wrap64 (wrap64 (1500 - (head.length : Int)) + r9))).toNat 0, evBind (a := (s, key, iv, m, num, head, List.replicate (mx 0 (wrap64 (wrap64 (1500 - (head.length : Int)) + r9))).toNat 0)) (evPut rfl (evBind e1 (evBind e2 (evPut e3 (evBind e4 (evPut e5 (evPut e6' (evBind e7 (evPut e8 (evPos hr (evPut e9 (evPos ?_ (evPos ?_ (Ev.now _)))))))))))))) (Ev.now _), n0, n1, by omega, ?_, ?_⟩
    · simp only; rw [hx]; omega
    · simp only; rw [hx]; omega
    · rw [List.length_replicate, hx]; omega
    · intro x hx2
      rw [List.mem_replicate] at hx2
      omega
  · exact ⟨s, key, iv, m, num, head, body, evBind (a := (s, key, iv, m, num, head, body)) (evPut rfl (evBind e1 (evBind e2 (evPut e3 (evBind e4 (evPut e5 (evPut e6' (evBind e7 (evPut e8 (evNeg hr (Ev.now _))))))))))) (Ev.now _), n0, n1, by omega, by omega, bb⟩
/-! ### the law -/
theorem copiedI (l : List Int) (h : l.length < 140737488355328) : laws_copied.f l = some l := by
  unfold laws_copied.f
  simp only [Option.bind_some, List.length_nil, Nat.zero_add]
  rw [if_pos h]
  rfl
theorem sameSelf (l : List Int) : laws_same.f l l = some true := by
  unfold laws_same.f
  simp
theorem FnSealed : laws_FnSealed.Pure := by
  intro l0 _ _ hb
  refine evEnds ?_
  unfold laws_FnSealed.f
  refine evSplit (fun _ => Ev.now _) (fun hlen => ?_)
  obtain ⟨s, key, iv, m, num, head, body, hd, n0, n1, hl, bl, bb⟩ := draw_seal l0 (by omega) (fun x hx => wfB (hb x hx))
  have sl := sealP_len s key iv m num head body
  refine evBind hd (evBind (sealS s key iv m num head body (by omega) (by omega)) (evBind hd (evBind (sealI s key iv m num head body (by omega) (by omega)) (evPos (by first | rfl | trivial) ?_))))
  simp only
  rw [sameSelf]
  refine evPut rfl (evSucc ?_)
  simp only [laws_FnSealed.j0]
  refine evNeg (by simp) (evSplit (fun h0 => ?_) (fun _ => Ev.now _))
  obtain ⟨hk, ho⟩ := openSeal s key iv m num head body bb h0
  generalize (sealP s key iv m num head body).1 = q at sl ho
  rw [copiedI head (by omega), copiedI q (by omega)]
  refine evPut rfl (evPut rfl (evBind (openI s key iv m num head q (by omega) (by omega)) ?_))
  rw [ho]
  refine evPos (by first | rfl | trivial) ?_
  simp only
  rw [sameSelf]
  refine evPut rfl (evSucc ?_)
  simp only [laws_FnSealed.j1]
  refine evNeg (by simp) (evBind (nextI s key iv m) (evBind (openI _ _ _ _ num head q (by omega) (by omega)) (evBind (nextS s key iv m) (evBind (openS _ _ _ _ num head q (by omega) (by omega)) (evBind (openI s key iv m _ head q (by omega) (by omega)) (evBind (openS s key iv m _ head q (by omega) (by omega)) (evPos (by first | rfl | trivial) (evPos (by first | rfl | trivial) ?_))))))))
  have hs := hk
  unfold keysFit at hs
  have h4 := (keysP_eq (derP s (bytesOf tNext) 16) (derP_length _ _ 16 (by decide))).1
  unfold nextP
  rw [if_pos hk]
  simp only
  rw [sameSelf]
  refine evPut rfl (evPos (by first | rfl | trivial) (evNow ?_))
  rw [h4]
  rfl

end Go.Proofs.Ytolpikjbdfpdcaa.Pure
