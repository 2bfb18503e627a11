/- The program's InitialKeys answers what the reference's answers, each list in memory of its own, for every version and id; no condition. -/
import Derived.Test.YtobcmccoadeocaaPFnExactInitialKeysx0
import Derived.Test.YtobcmccoadeocaaPFnExactInitialKeysx1
import Derived.Test.YtobcmccoadeocaaPFnExactInitialKeysx2
import Derived.Test.YtobcmccoadeocaaPFnExactInitialKeysx3
import Derived.Test.YtobcmccoadeocaaPFnExactInitialKeysx4
import Derived.Test.YtobcmccoadeocaaPFnExactInitialKeysx5
import Derived.Test.YtobcmccoadeocaaPFnExactInitialKeysx6
import Derived.Test.YtobcmccoadeocaaStmtFnExactInitialKeys
import Derived.Laws.BitsLemmas
import Derived.Laws.BitsAllLaws
set_option linter.unusedVariables false
set_option linter.unusedSimpArgs false
set_option maxRecDepth 4000
namespace Go.Proofs.Ytobcmccoadeocaa.Pure
open Go.RowKit Go.Proofs.Ytobcmccoadeocaa.PFnExactInitialKeys Go.Proofs.YtobcmccoadeocaaW.PrintWords Go.Proofs.YtobcmccoadeocaaW.PrintLast Go.Proofs.YtobcmccoadeocaaW.PrintMore

/-! ### tools: what a printed function comes to -/
theorem evSucc {α : Type} {g : Nat → Option α} {r : α} (h : Ev (fun k => g (k + 1)) r) : Ev g r := Ev.step (fun _ => rfl) h
theorem evPos {α : Type} {c : Prop} {dc : Decidable c} {a b : Nat → Option α} {r : α} (h : c) (e : Ev a r) : Ev (fun k => if c then a k else b k) r :=
  Ev.congr (fun _ => if_pos h) e
theorem evNeg {α : Type} {c : Prop} {dc : Decidable c} {a b : Nat → Option α} {r : α} (h : ¬ c) (e : Ev b r) : Ev (fun k => if c then a k else b k) r :=
  Ev.congr (fun _ => if_neg h) e
theorem evSplit {α : Type} {c : Prop} {dc : Decidable c} {a b : Nat → Option α} {r : α} (h : c → Ev a r) (h' : ¬ c → Ev b r) : Ev (fun k => if c then a k else b k) r := by
  by_cases hc : c
  · exact evPos hc (h hc)
  · exact evNeg hc (h' hc)
theorem evBind {α β : Type} {g : Nat → Option α} {f : Nat → α → Option β} {a : α} {r : β} (h : Ev g a) (k : Ev (fun n => f n a) r) : Ev (fun n => (g n).bind (f n)) r := Ev.bind h k
theorem evPut {α β : Type} {o : Option α} {f : Nat → α → Option β} {a : α} {r : β} (h : o = some a) (k : Ev (fun n => f n a) r) : Ev (fun n => o.bind (f n)) r :=
  Ev.congr (fun _ => by rw [h]; rfl) k
theorem evNow {α : Type} {r r' : α} (h : r = r') : Ev (fun _ => some r) r' := h ▸ Ev.now r
theorem evOf {α : Type} {o : Option α} {r : α} (h : o = some r) : Ev (fun _ => o) r := ⟨0, fun _ _ => h⟩
theorem evEnds {α : Type} {g : Nat → Option α} {r : α} (h : Ev g r) : ∃ k, g k = some r := Ev.rounds h
theorem w64 {x : Int} (h : -9223372036854775808 ≤ x) (h' : x ≤ 9223372036854775807) : wrap64 x = x := by unfold wrap64; omega
theorem w64succ (i : Nat) (h : i < 4611686018427387904) : wrap64 ((i : Int) + 1) = ((i + 1 : Nat) : Int) := by unfold wrap64; omega
theorem wfI {x : Int} (h : (Lit.int .i64 x).wf = true) : -9223372036854775808 ≤ x ∧ x ≤ 9223372036854775807 := by
  simp only [Lit.wf, IntKind.min, IntKind.max, IntKind.bits, IntKind.signed, Bool.and_eq_true, decide_eq_true_eq] at h
  simpa using h
theorem wfB {x : Int} (h : (Lit.int .u8 x).wf = true) : 0 ≤ x ∧ x ≤ 255 := by
  simp only [Lit.wf, IntKind.min, IntKind.max, IntKind.bits, IntKind.signed, Bool.and_eq_true, decide_eq_true_eq] at h
  simpa using h
theorem rdN (l : List Int) (i : Nat) (h : i < l.length) : rd l (i : Int) = l[i] := by simp [rd, List.getD_eq_getElem?_getD, h]
theorem fillStep {α : Type} (l : List α) (z : α) (i d : Nat) (h : i + (d + 1) = l.length) : (l.take i ++ List.replicate (d + 1) z).set i (l[i]'(by omega)) = l.take (i + 1) ++ List.replicate d z := by
  rw [List.set_append_right _ _ (by simp; omega), List.take_succ_eq_append_getElem (show i < l.length by omega), List.append_assoc]
  congr 1
  have e : i - (l.take i).length = 0 := by simp; omega
  rw [e]
  rfl
theorem evCast {α : Type} {g : Nat → Option α} {r r' : α} (h : Ev g r') (e : r' = r) : Ev g r := e ▸ h

/-! ### a number laid into bytes, the high one first -/
def digits (v : Int) : Nat → List Int
  | 0 => []
  | n + 1 => digits (v / 256) n ++ [v % 256]
theorem digits_length : ∀ (n : Nat) (v : Int), (digits v n).length = n
  | 0, _ => rfl
  | n + 1, v => by simp [digits, digits_length n]
theorem digits_top : ∀ (n : Nat) (v : Int), digits v (n + 1) = (v / 256 ^ n % 256) :: digits v n
  | 0, v => by simp [digits]
  | n + 1, v => by
    have e : digits v (n + 1 + 1) = digits (v / 256) (n + 1) ++ [v % 256] := rfl
    rw [e, digits_top n (v / 256), Int.ediv_ediv_of_nonneg (by decide), ← Int.pow_succ']
    rfl
theorem digits_byte : ∀ (n : Nat) (v : Int), ∀ x ∈ digits v n, 0 ≤ x ∧ x ≤ 255
  | 0, _, x, h => by simp [digits] at h
  | n + 1, v, x, h => by
    simp only [digits, List.mem_append, List.mem_singleton] at h
    rcases h with h | h
    · exact digits_byte n _ x h
    · omega
theorem digS : ∀ (n : Nat) (v : Int), n ≤ 1000 → 0 ≤ v → v ≤ 9223372036854775807 → Ev (fun k => spec_l01Digits.f k v (n : Int)) (digits v n) := by
  intro n
  induction n with
  | zero =>
    intro v _ _ _
    refine evSucc ?_
    simp only [spec_l01Digits.f]
    exact evPos (by omega) (Ev.now _)
  | succ n ih =>
    intro v hn h0 h1
    refine evSucc ?_
    simp only [spec_l01Digits.f]
    refine evNeg (by omega) ?_
    rw [Int.tdiv_eq_ediv_of_nonneg h0, Int.tmod_eq_emod_of_nonneg h0, w64 (x := v / 256) (by omega) (by omega), w64 (x := ((n + 1 : Nat) : Int) - 1) (by omega) (by omega), show ((n + 1 : Nat) : Int) - 1 = (n : Int) by omega]
    refine evBind (ih (v / 256) (by omega) (by omega) (by omega)) (evPos (by rw [digits_length]; omega) (evNow ?_))
    rw [Int.emod_emod]
    rfl
theorem u64N (x : Int) (h0 : 0 ≤ x) (h1 : x ≤ 9223372036854775807) : IntKind.u64.wrap x = x := by
  have : IntKind.u64.wrap x = x % 18446744073709551616 := by simp [IntKind.wrap, IntKind.bits, IntKind.signed]
  rw [this]; omega
theorem shr8 (x : Int) (n : Nat) (hn : n ≤ 7) : shr .u64 x (8 * (n : Int)) = x / 256 ^ n := by
  unfold shr
  have e : min (8 * (n : Int)).toNat IntKind.u64.bits = 8 * n := by simp only [IntKind.bits]; omega
  rw [e, Int.pow_mul]
  rfl
theorem fixI : ∀ (n : Nat) (l : List Int) (v : Int), n ≤ 8 → l.length + n ≤ 100000008 → 0 ≤ v → v ≤ 9223372036854775807 → Ev (fun k => impl_fixed.l0 k l v ((n : Int) - 1)) (l ++ digits v n) := by
  intro n
  induction n with
  | zero =>
    intro l v _ _ _ _
    refine evSucc ?_
    simp only [impl_fixed.l0]
    refine evNeg (by omega) (evNow ?_)
    simp [digits]
  | succ n ih =>
    intro l v hn hl h0 h1
    refine evSucc ?_
    simp only [impl_fixed.l0]
    rw [show ((n + 1 : Nat) : Int) - 1 = (n : Int) by omega, w64 (x := 8 * (n : Int)) (by omega) (by omega), w64 (x := (n : Int) - 1) (by omega) (by omega), u64N v h0 h1, shr8 v n (by omega)]
    refine evPos (by omega) (evPos (by omega) (evPos (by omega) ?_))
    have e : l ++ digits v (n + 1) = (l ++ [v / 256 ^ n % 256]) ++ digits v n := by rw [digits_top]; simp
    rw [e]
    exact ih _ v (by omega) (by simp; omega) h0 h1
theorem fixF (n : Nat) (l : List Int) (v : Int) (hn : n ≤ 8) (hl : l.length ≤ 1000000) (h0 : 0 ≤ v) (h1 : v ≤ 9223372036854775807) : Ev (fun k => impl_fixed.f k l v (n : Int)) (l ++ digits v n) := by
  unfold impl_fixed.f
  rw [w64 (x := (n : Int) - 1) (by omega) (by omega)]
  exact fixI n l v hn (by omega) h0 h1

/-! ### the digest -/
def rot (x s : Int) : Int := Go.bits .or .u32 (shl .u32 x s) (shr .u32 x (32 - s))
theorem rotS (x s : Int) (h0 : 0 ≤ s) (h1 : s ≤ 32) : spec_l03Rot.f x s = some (rot x s) := by
  unfold spec_l03Rot.f rot
  rw [u64N s h0 (by omega), w64 (x := 32 - s) (by omega) (by omega), u64N (32 - s) (by omega) (by omega), if_pos h0, if_pos (by omega)]
theorem rotS7 (x : Int) : spec_l03Rot.f x 7 = some (rot x 7) := rotS x 7 (by decide) (by decide)
theorem rotS13 (x : Int) : spec_l03Rot.f x 13 = some (rot x 13) := rotS x 13 (by decide) (by decide)
theorem rotS17 (x : Int) : spec_l03Rot.f x 17 = some (rot x 17) := rotS x 17 (by decide) (by decide)
theorem rotI7 (x : Int) : bits_RotateLeft32.f x 7 = some (rot x 7) := rfl
theorem rotI13 (x : Int) : bits_RotateLeft32.f x 13 = some (rot x 13) := rfl
theorem rotI17 (x : Int) : bits_RotateLeft32.f x 17 = some (rot x 17) := rfl
def Four := Int × Int × Int × Int
def stepP (a b c d v : Int) : Int × Int × Int × Int :=
  let x := Go.bits .xor .u32 a (v % 4294967296) * 16777619 % 4294967296
  let b1 := rot ((b + x) % 4294967296) 7
  let c1 := rot (Go.bits .xor .u32 c b1) 13
  let d1 := rot ((d + c1) % 4294967296) 17
  (Go.bits .xor .u32 x d1, b1, c1, d1)
def stirP : List Int → Int × Int × Int × Int → Int × Int × Int × Int
  | [], s => s
  | v :: l, s => stirP l (stepP s.1 s.2.1 s.2.2.1 s.2.2.2 v)
theorem stir1_is (a b c d v : Int) : stir1 a b c d v = some (stepP a b c d v) := by
  simp only [stir1, rotI7, rotI13, rotI17, Option.bind_some, stepP]
theorem stirAll_is : ∀ (l : List Int) (a b c d : Int), stirAll l a b c d = some (stirP l (a, b, c, d))
  | [], _, _, _, _ => rfl
  | v :: l, a, b, c, d => by
    simp only [stirAll, stir1_is, Option.bind_some]
    exact stirAll_is l _ _ _ _
theorem stirI (l : List Int) (s : Int × Int × Int × Int) (h : l.length < 4611686018427387904) : impl_stirrer_stir.f s.1 s.2.1 s.2.2.1 s.2.2.2 l = some (stirP l s) := by
  unfold impl_stirrer_stir.f
  rw [if_pos h, stirAll_is]
theorem stirS_loop (l : List Int) (hl : l.length < 4611686018427387904) : ∀ (d i : Nat) (s : Int × Int × Int × Int), i + d = l.length → Ev (fun k => spec_l03Stir.l0 k l (i : Int) s.1 s.2.1 s.2.2.1 s.2.2.2) (stirP (l.drop i) s) := by
  intro d
  induction d with
  | zero =>
    intro i s h
    refine evSucc ?_
    simp only [spec_l03Stir.l0]
    refine evNeg (by omega) (evNow ?_)
    rw [List.drop_eq_nil_of_le (by omega)]
    rfl
  | succ d ih =>
    intro i s h
    refine evSucc ?_
    simp only [spec_l03Stir.l0]
    refine evPos (by omega) (evPos (by omega) ?_)
    refine evPut (rotS7 _) (evPut (rotS13 _) (evPut (rotS17 _) ?_))
    rw [w64succ i (by omega), List.drop_eq_getElem_cons (show i < l.length by omega), rdN l i (by omega)]
    exact ih (i + 1) (stepP s.1 s.2.1 s.2.2.1 s.2.2.2 l[i]) (by omega)
theorem stirS (l : List Int) (s : Int × Int × Int × Int) (hl : l.length < 4611686018427387904) : Ev (fun k => spec_l03Stir.f k s.1 s.2.1 s.2.2.1 s.2.2.2 l) (stirP l s) := by
  have h := stirS_loop l hl l.length 0 s (by omega)
  simpa [spec_l03Stir.f] using h
/-! every number of it is one of 32 bits -/
def inR (s : Int × Int × Int × Int) : Prop := (0 ≤ s.1 ∧ s.1 < 4294967296) ∧ (0 ≤ s.2.1 ∧ s.2.1 < 4294967296) ∧ (0 ≤ s.2.2.1 ∧ s.2.2.1 < 4294967296) ∧ (0 ≤ s.2.2.2 ∧ s.2.2.2 < 4294967296)
theorem bits32 (op : BinOp) (x y : Int) : 0 ≤ Go.bits op .u32 x y ∧ Go.bits op .u32 x y < 4294967296 := by
  unfold Go.bits
  simp only [IntKind.wrap_u32]
  omega
theorem rotR (x s : Int) : 0 ≤ rot x s ∧ rot x s < 4294967296 := bits32 _ _ _
theorem stepP_inR (a b c d v : Int) : inR (stepP a b c d v) := by
  simp only [inR, stepP]
  exact ⟨bits32 _ _ _, rotR _ _, rotR _ _, rotR _ _⟩
theorem stirP_inR : ∀ (l : List Int) (s : Int × Int × Int × Int), inR s → inR (stirP l s)
  | [], _, h => h
  | _ :: l, _, _ => stirP_inR l _ (stepP_inR _ _ _ _ _)
def iterP : Nat → Int × Int × Int × Int → Int × Int × Int × Int
  | 0, s => s
  | n + 1, s => iterP n (stirP [165] s)
theorem iterP_inR : ∀ (n : Nat) (s : Int × Int × Int × Int), inR s → inR (iterP n s)
  | 0, _, h => h
  | n + 1, _, h => iterP_inR n _ (stirP_inR _ _ h)
theorem iterI : ∀ (n : Nat) (s : Int × Int × Int × Int), impl_digest.iter n s.1 s.2.1 s.2.2.1 s.2.2.2 = some (iterP n s)
  | 0, _ => rfl
  | n + 1, s => by
    simp only [impl_digest.iter, stirI [165] s (by decide), Option.bind_some]
    exact iterI n _
def start4 : Int × Int × Int × Int := (1779033703, 3144134277, 1013904242, 2773480762)
def stateP (key data : List Int) : Int × Int × Int × Int :=
  iterP 16 (stirP (digits data.length 4) (stirP data (stirP key (stirP (digits key.length 4) start4))))
theorem stateP_inR (key data : List Int) : inR (stateP key data) := iterP_inR _ _ (stirP_inR _ _ (stirP_inR _ _ (stirP_inR _ _ (stirP_inR _ _ (by simp only [inR, start4]; omega)))))
def digP (key data : List Int) : List Int :=
  let s := stateP key data
  digits s.1 4 ++ digits s.2.1 4 ++ digits s.2.2.1 4 ++ digits s.2.2.2 4
theorem digP_length (key data : List Int) : (digP key data).length = 16 := by simp [digP, digits_length]
theorem digP_byte (key data : List Int) : ∀ x ∈ digP key data, 0 ≤ x ∧ x ≤ 255 := by
  intro x h
  simp only [digP, List.mem_append] at h
  rcases h with ((h | h) | h) | h <;> exact digits_byte _ _ x h
theorem digI_end (s : Int × Int × Int × Int) (hr : inR s) : Ev (fun k => (impl_fixed.f k [] (wrap64 s.1) 4).bind fun o1 => (impl_fixed.f k o1 (wrap64 s.2.1) 4).bind fun o2 => (impl_fixed.f k o2 (wrap64 s.2.2.1) 4).bind fun o3 => impl_fixed.f k o3 (wrap64 s.2.2.2) 4) (digits s.1 4 ++ digits s.2.1 4 ++ digits s.2.2.1 4 ++ digits s.2.2.2 4) := by
  unfold inR at hr
  rw [w64 (x := s.1) (by omega) (by omega), w64 (x := s.2.1) (by omega) (by omega), w64 (x := s.2.2.1) (by omega) (by omega), w64 (x := s.2.2.2) (by omega) (by omega)]
  have h1 := fixF 4 [] s.1 (by decide) (by decide) (by omega) (by omega)
  have h2 := fixF 4 (digits s.1 4) s.2.1 (by decide) (by simp [digits_length]) (by omega) (by omega)
  have h3 := fixF 4 (digits s.1 4 ++ digits s.2.1 4) s.2.2.1 (by decide) (by simp [digits_length]) (by omega) (by omega)
  have h4 := fixF 4 (digits s.1 4 ++ digits s.2.1 4 ++ digits s.2.2.1 4) s.2.2.2 (by decide) (by simp [digits_length]) (by omega) (by omega)
  rw [List.nil_append] at h1
  exact evBind h1 (evBind h2 (evBind h3 h4))
theorem digI (key data : List Int) (h1 : key.length ≤ 1000000000) (h2 : data.length ≤ 1000000000) : Ev (fun k => impl_digest.f k key data) (digP key data) := by
  have hr := stateP_inR key data
  have a1 := fixF 4 [] (key.length : Int) (by decide) (by decide) (by omega) (by omega)
  have a2 := fixF 4 [] (data.length : Int) (by decide) (by decide) (by omega) (by omega)
  rw [List.nil_append] at a1 a2
  unfold impl_digest.f digP
  refine evBind a1 (evPut (stirI _ start4 (by rw [digits_length]; decide)) (evPut (stirI key _ (by omega)) (evPut (stirI data _ (by omega)) (evBind a2 (evPut (stirI _ _ (by rw [digits_length]; decide)) (evPut (iterI 16 _) ?_))))))
  exact digI_end (stateP key data) hr
theorem digS_loop (s0 : Int × Int × Int × Int) (hs : inR (iterP 16 s0)) : ∀ (d i : Nat) (s : Int × Int × Int × Int), i + d = 16 → iterP d s = iterP 16 s0 → Ev (fun k => spec_l03Digest.l0 k (i : Int) s.1 s.2.1 s.2.2.1 s.2.2.2) (digits (iterP 16 s0).1 4 ++ digits (iterP 16 s0).2.1 4 ++ digits (iterP 16 s0).2.2.1 4 ++ digits (iterP 16 s0).2.2.2 4) := by
  intro d
  induction d with
  | zero =>
    intro i s h he
    have hr := hs
    rw [← he] at hr ⊢
    simp only [iterP] at hr ⊢
    unfold inR at hr
    refine evSucc ?_
    simp only [spec_l03Digest.l0]
    rw [w64 (x := s.1) (by omega) (by omega), w64 (x := s.2.1) (by omega) (by omega), w64 (x := s.2.2.1) (by omega) (by omega), w64 (x := s.2.2.2) (by omega) (by omega)]
    refine evNeg (by omega) (evBind (digS 4 _ (by decide) (by omega) (by omega)) (evBind (digS 4 _ (by decide) (by omega) (by omega)) (evPos (by simp [digits_length]) (evPut rfl (evBind (digS 4 _ (by decide) (by omega) (by omega)) (evPos (by simp [digits_length]) (evPut rfl (evBind (digS 4 _ (by decide) (by omega) (by omega)) (evPos (by simp [digits_length]) (Ev.now _))))))))))
  | succ d ih =>
    intro i s h he
    refine evSucc ?_
    simp only [spec_l03Digest.l0]
    refine evPos (by omega) (evBind (stirS [165] s (by decide)) ?_)
    rw [w64succ i (by omega)]
    exact ih (i + 1) _ (by omega) he
theorem digSp (key data : List Int) (h1 : key.length ≤ 1000000000) (h2 : data.length ≤ 1000000000) : Ev (fun k => spec_l03Digest.f k key data) (digP key data) := by
  unfold spec_l03Digest.f
  refine evBind (digS 4 _ (by decide) (by omega) (by omega)) (evBind (stirS _ start4 (by rw [digits_length]; decide)) (evBind (stirS key _ (by omega)) (evBind (stirS data _ (by omega)) (evBind (digS 4 _ (by decide) (by omega) (by omega)) (evBind (stirS _ _ (by rw [digits_length]; decide)) ?_)))))
  exact digS_loop _ (stateP_inR key data) 16 0 _ (by omega) rfl

/-! ### keys out of a secret -/
def derL : Nat → List Int → List Int → Nat → Nat → List Int → List Int
  | 0, _, _, n, _, o => o.take n
  | f + 1, sec, lab, n, i, o => if o.length < n then derL f sec lab n (i + 1) (o ++ digP sec (lab ++ [(i : Int) % 256])) else o.take n
theorem derI_loop (sec : List Int) (a1 : ByteArray) (n : Nat) (hs : sec.length = 16) (ha : a1.size ≤ 32) (hn : n ≤ 64) : ∀ (f i : Nat) (o : List Int), i + f = 4 → o.length = 16 * i →
    Ev (fun k => impl_Derive.l0 k sec a1 (n : Int) (i : Int) o) (derL f sec (bytesOf a1) n i o) := by
  intro f
  induction f with
  | zero =>
    intro i o h ho
    refine evSucc ?_
    simp only [impl_Derive.l0]
    refine evNeg (by omega) (evPos (by omega) (evNow ?_))
    simp [derL]
  | succ f ih =>
    intro i o h ho
    refine evSucc ?_
    simp only [impl_Derive.l0, derL]
    by_cases hc : o.length < n
    · rw [if_pos hc]
      have hb := bytesOf_length a1
      have hd := digP_length sec (bytesOf a1 ++ [(i : Int) % 256])
      refine evPos (by omega) (evPos (by omega) (evBind (digI _ _ (by omega) (by simp; omega)) (evPos (by omega) ?_)))
      exact ih (i + 1) _ (by omega) (by rw [List.length_append, hd]; omega)
    · rw [if_neg hc]
      refine evNeg (by omega) (evPos (by omega) (evNow ?_))
      simp
theorem derS_loop (sec : List Int) (a1 : ByteArray) (n : Nat) (hs : sec.length = 16) (ha : a1.size ≤ 32) (hn : n ≤ 64) : ∀ (f i : Nat) (o : List Int), i + f = 4 → o.length = 16 * i →
    Ev (fun k => spec_Derive.l0 k sec a1 (n : Int) (i : Int) o) (derL f sec (bytesOf a1) n i o) := by
  intro f
  induction f with
  | zero =>
    intro i o h ho
    refine evSucc ?_
    simp only [spec_Derive.l0]
    refine evNeg (by omega) (evPos (by omega) (evNow ?_))
    simp [derL]
  | succ f ih =>
    intro i o h ho
    refine evSucc ?_
    simp only [spec_Derive.l0, derL]
    by_cases hc : o.length < n
    · rw [if_pos hc]
      have hb := bytesOf_length a1
      have hd := digP_length sec (bytesOf a1 ++ [(i : Int) % 256])
      refine evPos (by omega) (evPos (by omega) (evBind (digSp _ _ (by omega) (by simp; omega)) (evPos (by omega) ?_)))
      exact ih (i + 1) _ (by omega) (by rw [List.length_append, hd]; omega)
    · rw [if_neg hc]
      refine evNeg (by omega) (evPos (by omega) (evNow ?_))
      simp
theorem derL_length (sec lab : List Int) (n : Nat) (hn : n ≤ 64) : ∀ (f i : Nat) (o : List Int), i + f = 4 → o.length = 16 * i → (derL f sec lab n i o).length = n := by
  intro f
  induction f with
  | zero =>
    intro i o h ho
    simp only [derL, List.length_take]
    omega
  | succ f ih =>
    intro i o h ho
    simp only [derL]
    by_cases hc : o.length < n
    · rw [if_pos hc]
      exact ih (i + 1) _ (by omega) (by rw [List.length_append, digP_length]; omega)
    · rw [if_neg hc, List.length_take]
      omega
def derP (sec lab : List Int) (n : Nat) : List Int := derL 4 sec lab n 0 []
theorem derP_length (sec lab : List Int) (n : Nat) (hn : n ≤ 64) : (derP sec lab n).length = n := derL_length sec lab n hn 4 0 [] (by decide) rfl
theorem derI (sec : List Int) (a1 : ByteArray) (n : Nat) (hs : sec.length = 16) (ha : a1.size ≤ 32) (h1 : 1 ≤ n) (hn : n ≤ 64) : Ev (fun k => impl_Derive.f k sec a1 (n : Int)) (derP sec (bytesOf a1) n) := by
  unfold impl_Derive.f
  exact evNeg (by omega) (evNeg (by omega) (evNeg (by omega) (evNeg (by omega) (derI_loop sec a1 n hs ha hn 4 0 [] (by decide) rfl))))
theorem derS (sec : List Int) (a1 : ByteArray) (n : Nat) (hs : sec.length = 16) (ha : a1.size ≤ 32) (h1 : 1 ≤ n) (hn : n ≤ 64) : Ev (fun k => spec_Derive.f k sec a1 (n : Int)) (derP sec (bytesOf a1) n) := by
  unfold spec_Derive.f
  exact evNeg (by omega) (evNeg (by omega) (evNeg (by omega) (evNeg (by omega) (derS_loop sec a1 n hs ha hn 4 0 [] (by decide) rfl))))
def tKey : ByteArray := ⟨#[107, 101, 121]⟩
def tIv : ByteArray := ⟨#[105, 118]⟩
def tMask : ByteArray := ⟨#[109, 97, 115, 107]⟩
def keysP (sec : List Int) : List Int × List Int × List Int × List Int :=
  if sec.length = 16 then (sec, derP sec (bytesOf tKey) 16, derP sec (bytesOf tIv) 8, derP sec (bytesOf tMask) 16) else ([], [], [], [])
theorem keysI (sec : List Int) : Ev (fun k => impl_KeysOf.f k sec) (keysP sec) := by
  unfold impl_KeysOf.f keysP
  by_cases h : sec.length = 16
  · rw [if_pos h]
    refine evPos (by omega) (evPut rfl (evPos (by simp; omega) ?_))
    refine evBind (derI sec tKey 16 h (by decide) (by decide) (by decide)) (evBind (derI sec tIv 8 h (by decide) (by decide) (by decide)) (evBind (derI sec tMask 16 h (by decide) (by decide) (by decide)) (evNow ?_)))
    simp
  · rw [if_neg h]
    exact evNeg (by omega) (Ev.now _)
theorem copyS (l : List Int) (h : l.length < 100000000000) : spec_l03Copy.f l = some l := by
  unfold spec_l03Copy.f
  simp only [Option.bind_some, List.nil_append, List.length_nil]
  rw [if_pos (by omega)]
theorem keysS (sec : List Int) : Ev (fun k => spec_KeysOf.f k sec) (keysP sec) := by
  unfold spec_KeysOf.f keysP
  by_cases h : sec.length = 16
  · rw [if_pos h]
    refine evPos (by omega) (evPut (copyS sec (by omega)) ?_)
    exact evBind (derS sec tKey 16 h (by decide) (by decide) (by decide)) (evBind (derS sec tIv 8 h (by decide) (by decide) (by decide)) (evBind (derS sec tMask 16 h (by decide) (by decide) (by decide)) (Ev.now _)))
  · rw [if_neg h]
    exact evNeg (by omega) (Ev.now _)

/-! ### the laws' own helpers on bytes -/
theorem eqB_loop (l : List Int) (hl : l.length < 4611686018427387904) : ∀ (d i : Nat), i + d = l.length → Ev (fun k => laws_eqByteS.l0 k l l (i : Int)) true := by
  intro d
  induction d with
  | zero =>
    intro i h
    refine evSucc ?_
    simp only [laws_eqByteS.l0]
    exact evNeg (by omega) (Ev.now _)
  | succ d ih =>
    intro i h
    refine evSucc ?_
    simp only [laws_eqByteS.l0]
    refine evPos (by omega) (evPos (by omega) (evPos (by omega) (evPos (by first | rfl | trivial) ?_)))
    rw [w64succ i (by omega)]
    exact ih (i + 1) (by omega)
theorem eqB (l : List Int) (hl : l.length < 4611686018427387904) : Ev (fun k => laws_eqByteS.f k l l) true := by
  unfold laws_eqByteS.f
  exact evPos rfl (eqB_loop l hl l.length 0 (by omega))

theorem toB_loop (l : List Int) (hl : l.length < 4611686018427387904) : ∀ (d i : Nat), i + d = l.length → Ev (fun k => laws_toByteS.l0 k l (l.take i ++ List.replicate d 0) (i : Int)) l := by
  intro d
  induction d with
  | zero =>
    intro i h
    refine evSucc ?_
    simp only [laws_toByteS.l0]
    refine evNeg (by omega) (evNow ?_)
    simp [List.take_of_length_le (show l.length ≤ i by omega)]
  | succ d ih =>
    intro i h
    refine evSucc ?_
    simp only [laws_toByteS.l0]
    refine evPos (by omega) (evPos (by omega) (evPos (by simp; omega) ?_))
    rw [w64succ i (by omega), rdN l i (by omega), Int.toNat_natCast, fillStep l 0 i d h]
    exact ih (i + 1) (by omega)
theorem toB (l : List Int) (hl : l.length ≤ 140737488351232) : Ev (fun k => laws_toByteS.f k l) l := by
  unfold laws_toByteS.f
  refine evPos (by omega) (evPos (by omega) ?_)
  have := toB_loop l (by omega) l.length 0 (by omega)
  simpa using this

theorem markB_loop (m : Int) (n : Nat) (h0 : 0 ≤ m) (hm : m + n < 4611686018427387904) : ∀ (d i : Nat) (l : List Int), i + d = n → l.length = n → (∀ j : Nat, j < i → rd l (j : Int) = (m + j) % 256) →
    ∃ l' : List Int, l'.length = n ∧ (∀ j : Nat, j < n → rd l' (j : Int) = (m + j) % 256) ∧ Ev (fun k => laws_markByteS.l0 k l (m + i) (i : Int)) (m + n, l') := by
  intro d
  induction d with
  | zero =>
    intro i l h hl hj
    refine ⟨l, hl, fun j hj' => hj j (by omega), evSucc ?_⟩
    simp only [laws_markByteS.l0]
    refine evNeg (by omega) (evNow ?_)
    have : i = n := by omega
    rw [this]
  | succ d ih =>
    intro i l h hl hj
    obtain ⟨l', hl', hj', e⟩ := ih (i + 1) (l.set i ((m + i) % 256)) (by omega) (by simpa using hl) (by
      intro j hj1
      by_cases hji : j = i
      · subst hji
        simp [rd, List.getD_eq_getElem?_getD, hl, show j < n by omega]
      · have := hj j (by omega)
        simp only [rd, List.getD_eq_getElem?_getD, Int.toNat_natCast] at this ⊢
        rw [List.getElem?_set_ne (by omega)]
        exact this)
    refine ⟨l', hl', hj', evSucc ?_⟩
    simp only [laws_markByteS.l0]
    refine evPos (by omega) (evPos (by omega) ?_)
    rw [w64succ i (by omega), w64 (by omega) (by omega), Int.toNat_natCast]
    have e2 : m + (i : Int) + 1 = m + ((i + 1 : Nat) : Int) := by omega
    rw [e2]
    exact e
theorem markB (l : List Int) (m : Int) (h0 : 0 ≤ m) (hm : m + l.length < 4611686018427387904) :
    ∃ l' : List Int, l'.length = l.length ∧ (∀ j : Nat, j < l.length → rd l' (j : Int) = (m + j) % 256) ∧ Ev (fun k => laws_markByteS.f k l m) (m + l.length, l') := by
  obtain ⟨l', h1, h2, h3⟩ := markB_loop m l.length h0 hm l.length 0 l (by omega) rfl (by omega)
  refine ⟨l', h1, h2, ?_⟩
  unfold laws_markByteS.f
  simpa using h3
theorem heldB_loop (m : Int) (l : List Int) (h0 : 0 ≤ m) (hm : m + l.length < 4611686018427387904) (hj : ∀ j : Nat, j < l.length → rd l (j : Int) = (m + j) % 256) :
    ∀ (d i : Nat), i + d = l.length → Ev (fun k => laws_heldByteS.l0 k l (m + i) (i : Int)) (m + l.length) := by
  intro d
  induction d with
  | zero =>
    intro i h
    refine evSucc ?_
    simp only [laws_heldByteS.l0]
    refine evNeg (by omega) (evNow ?_)
    have : i = l.length := by omega
    rw [this]
  | succ d ih =>
    intro i h
    refine evSucc ?_
    simp only [laws_heldByteS.l0]
    refine evPos (by omega) (evPos (by omega) (evPos (hj i (by omega)) ?_))
    rw [w64succ i (by omega), w64 (by omega) (by omega)]
    have e2 : m + (i : Int) + 1 = m + ((i + 1 : Nat) : Int) := by omega
    rw [e2]
    exact ih (i + 1) (by omega)
theorem heldB (m : Int) (l : List Int) (h0 : 0 ≤ m) (hm : m + l.length < 4611686018427387904) (hj : ∀ j : Nat, j < l.length → rd l (j : Int) = (m + j) % 256) :
    Ev (fun k => laws_heldByteS.f k l m) (m + l.length) := by
  unfold laws_heldByteS.f
  have := heldB_loop m l h0 hm hj l.length 0 (by omega)
  simpa using this

def tC : ByteArray := ⟨#[99, 32, 105, 110]⟩
def tS : ByteArray := ⟨#[115, 32, 105, 110]⟩
def ini : List Int := [105, 110, 105, 116, 105, 97, 108]
def two (a b : List Int × List Int × List Int × List Int) : List Int × List Int × List Int × List Int × List Int × List Int × List Int × List Int := (a.1, a.2.1, a.2.2.1, a.2.2.2, b.1, b.2.1, b.2.2.1, b.2.2.2)
def iniP (v : Int) (c : List Int) : List Int × List Int × List Int × List Int × List Int × List Int × List Int × List Int :=
  if (1 ≤ v ∧ v ≤ 4294967295) ∧ c.length ≤ 8 then two (keysP (derP (digP (ini ++ digits v 4) c) (bytesOf tC) 16)) (keysP (derP (digP (ini ++ digits v 4) c) (bytesOf tS) 16)) else two ([], [], [], []) ([], [], [], [])
theorem keysP_len (sec : List Int) : (keysP sec).1.length ≤ 16 ∧ (keysP sec).2.1.length ≤ 16 ∧ (keysP sec).2.2.1.length ≤ 16 ∧ (keysP sec).2.2.2.length ≤ 16 := by
  unfold keysP
  by_cases h : sec.length = 16
  · rw [if_pos h]
    exact ⟨by simp only; omega, by simp only [derP_length _ _ 16 (by decide)]; omega, by simp only [derP_length _ _ 8 (by decide)]; omega, by simp only [derP_length _ _ 16 (by decide)]; omega⟩
  · rw [if_neg h]; simp
theorem iniP_len (v : Int) (c : List Int) : ((iniP v c).1.length ≤ 16 ∧ (iniP v c).2.1.length ≤ 16 ∧ (iniP v c).2.2.1.length ≤ 16 ∧ (iniP v c).2.2.2.1.length ≤ 16) ∧ (iniP v c).2.2.2.2.1.length ≤ 16 ∧ (iniP v c).2.2.2.2.2.1.length ≤ 16 ∧ (iniP v c).2.2.2.2.2.2.1.length ≤ 16 ∧ (iniP v c).2.2.2.2.2.2.2.length ≤ 16 := by
  unfold iniP
  by_cases h : (1 ≤ v ∧ v ≤ 4294967295) ∧ c.length ≤ 8
  · rw [if_pos h]; exact ⟨keysP_len _, keysP_len _⟩
  · rw [if_neg h]; simp [two]
theorem iniI (v : Int) (c : List Int) : Ev (fun k => impl_InitialKeys.f k v c) (iniP v c) := by
  unfold impl_InitialKeys.f iniP impl_versionOK.f
  by_cases h1 : 1 ≤ v
  · rw [if_pos h1]
    by_cases h2 : v ≤ 4294967295
    · by_cases h3 : c.length ≤ 8
      · rw [if_pos ⟨⟨h1, h2⟩, h3⟩]
        refine evPut rfl (evPos (decide_eq_true h2) (evSucc ?_))
        simp only [impl_InitialKeys.j0]
        refine evNeg (by simp; omega) (evBind (fixF 4 ini v (by decide) (by decide) (by omega) (by omega)) (evBind (digI _ c (by simp [ini, digits_length]) (by omega)) ?_))
        exact evBind (derI _ tC 16 (digP_length _ _) (by decide) (by decide) (by decide)) (evBind (keysI _) (evBind (derI _ tS 16 (digP_length _ _) (by decide) (by decide) (by decide)) (evBind (keysI _) (Ev.now _))))
      · rw [if_neg (fun h => h3 h.2)]
        refine evPut rfl (evPos (decide_eq_true h2) (evSucc ?_))
        simp only [impl_InitialKeys.j0]
        exact evPos (by simp; omega) (Ev.now _)
    · rw [if_neg (fun h => h2 h.1.2)]
      refine evPut rfl (evNeg (by simp; omega) (evSucc ?_))
      simp only [impl_InitialKeys.j0]
      exact evPos (by simp) (Ev.now _)
  · rw [if_neg h1, if_neg (fun h => h1 h.1.1)]
    refine evPut rfl (evNeg (by simp) (evSucc ?_))
    simp only [impl_InitialKeys.j0]
    exact evPos (by simp) (Ev.now _)
theorem iniS (v : Int) (c : List Int) : Ev (fun k => spec_InitialKeys.f k v c) (iniP v c) := by
  unfold spec_InitialKeys.f iniP spec_l04VersionOK.f
  by_cases h1 : 1 ≤ v
  · rw [if_pos h1]
    by_cases h2 : v ≤ 4294967295
    · by_cases h3 : c.length ≤ 8
      · rw [if_pos ⟨⟨h1, h2⟩, h3⟩]
        refine evPut rfl (evPos (decide_eq_true h2) (evSucc ?_))
        simp only [spec_InitialKeys.j0]
        refine evNeg (by simp; omega) (evPut rfl (evBind (digS 4 v (by decide) (by omega) (by omega)) (evPos (digits_length _ _) (evBind (digSp (ini ++ digits v 4) c (by simp [ini, digits_length]) (by omega)) ?_))))
        exact evBind (derS _ tC 16 (digP_length _ _) (by decide) (by decide) (by decide)) (evBind (keysS _) (evBind (derS _ tS 16 (digP_length _ _) (by decide) (by decide) (by decide)) (evBind (keysS _) (Ev.now _))))
      · rw [if_neg (fun h => h3 h.2)]
        refine evPut rfl (evPos (decide_eq_true h2) (evSucc ?_))
        simp only [spec_InitialKeys.j0]
        exact evPos (by simp; omega) (Ev.now _)
    · rw [if_neg (fun h => h2 h.1.2)]
      refine evPut rfl (evNeg (by simp; omega) (evSucc ?_))
      simp only [spec_InitialKeys.j0]
      exact evPos (by simp) (Ev.now _)
  · rw [if_neg h1, if_neg (fun h => h1 h.1.1)]
    refine evPut rfl (evNeg (by simp) (evSucc ?_))
    simp only [spec_InitialKeys.j0]
    exact evPos (by simp) (Ev.now _)
/-! ### keys compared, marked, held -/
theorem eqK (a b c d : List Int) (ha : a.length ≤ 16) (hb : b.length ≤ 16) (hc : c.length ≤ 16) (hd : d.length ≤ 16) : Ev (fun k => laws_eqKeys.f k a b c d a b c d) true := by
  unfold laws_eqKeys.f
  exact evBind (eqB a (by omega)) (evPos rfl (evBind (eqB b (by omega)) (evPos rfl (evBind (eqB c (by omega)) (evPos rfl (evBind (eqB d (by omega)) (evPos rfl (Ev.now _))))))))
theorem markK (a b c d : List Int) (m : Int) (h0 : 0 ≤ m) (hm : m ≤ 1000) (ha : a.length ≤ 16) (hb : b.length ≤ 16) (hc : c.length ≤ 16) (hd : d.length ≤ 16) :
    ∃ A B C D, Ev (fun k => laws_markKeys.f k a b c d m) (m + a.length + b.length + c.length + d.length, A, B, C, D) ∧ Ev (fun k => laws_heldKeys.f k A B C D m) (m + a.length + b.length + c.length + d.length) := by
  obtain ⟨A, a1, a2, a3⟩ := markB a m (by omega) (by omega)
  obtain ⟨B, b1, b2, b3⟩ := markB b (m + a.length) (by omega) (by omega)
  obtain ⟨C, c1, c2, c3⟩ := markB c (m + a.length + b.length) (by omega) (by omega)
  obtain ⟨D, d1, d2, d3⟩ := markB d (m + a.length + b.length + c.length) (by omega) (by omega)
  have ah := heldB m A (by omega) (by omega) (by rw [a1]; exact a2)
  have bh := heldB (m + a.length) B (by omega) (by omega) (by rw [b1]; exact b2)
  have ch := heldB (m + a.length + b.length) C (by omega) (by omega) (by rw [c1]; exact c2)
  have dh := heldB (m + a.length + b.length + c.length) D (by omega) (by omega) (by rw [d1]; exact d2)
  rw [a1] at ah
  rw [b1] at bh
  rw [c1] at ch
  rw [d1] at dh
  refine ⟨A, B, C, D, ?_, ?_⟩
  · unfold laws_markKeys.f
    exact evBind a3 (evBind b3 (evBind c3 (evBind d3 (Ev.now _))))
  · unfold laws_heldKeys.f
    exact evBind ah (evNeg (by omega) (evBind bh (evNeg (by omega) (evBind ch (evNeg (by omega) (evBind dh (evNeg (by omega) (Ev.now _))))))))

theorem FnExactInitialKeys : laws_FnExactInitialKeys.Stmt := by
  intro a0 l1 _ hl _
  obtain ⟨_, hb⟩ := hl
  refine evEnds ?_
  unfold laws_FnExactInitialKeys.f
  refine evSplit (fun _ => Ev.now _) (fun c0 => ?_)
  have t0 := toB l1 (by omega)
  have hI := iniI a0 l1
  have hS := iniS a0 l1
  have hn := iniP_len a0 l1
  generalize iniP a0 l1 = W at hI hS hn
  obtain ⟨W0, W1, W2, W3, W4, W5, W6, W7⟩ := W
  obtain ⟨⟨n0, n1, n2, n3⟩, n4, n5, n6, n7⟩ := hn
  simp only at n0 n1 n2 n3 n4 n5 n6 n7
  have e1 := eqK W0 W1 W2 W3 n0 n1 n2 n3
  have e2 := eqK W4 W5 W6 W7 n4 n5 n6 n7
  obtain ⟨m0, _, _, q0⟩ := markB l1 1 (by omega) (by omega)
  obtain ⟨A, B, C, D, k1, k2⟩ := markK W0 W1 W2 W3 1 (by omega) (by omega) n0 n1 n2 n3
  obtain ⟨A', B', C', D', k3, k4⟩ := markK W4 W5 W6 W7 (1 + W0.length + W1.length + W2.length + W3.length) (by omega) (by omega) n4 n5 n6 n7
  exact evBind t0 (evBind hS (evBind hI (evBind e1 (evBind e2 (evBind (eqB l1 (by omega)) (evBind q0 (evBind k1 (evBind k3 (evBind k2 (evBind k4 (evPos ⟨rfl, rfl, rfl, by simp only; omega, by omega, by omega, rfl⟩ (Ev.now _))))))))))))

end Go.Proofs.Ytobcmccoadeocaa.Pure
