/- Every urgency, in turns or not, comes back by the program from the program's text, also with drawn parts ahead of it; at an urgency of no stream there is no text; no condition. -/
import Derived.Test.YtkcimmlaoipdkaaDoorPFnPriorityx0
import Derived.Test.YtkcimmlaoipdkaaDoorPFnPriorityx1
import Derived.Test.YtkcimmlaoipdkaaDoorPFnPriorityx2
import Derived.Test.YtkcimmlaoipdkaaDoorPFnPriorityx3
import Derived.Test.YtkcimmlaoipdkaaDoorPFnPriorityx4
import Derived.Test.YtkcimmlaoipdkaaDoorPFnPriorityx5
import Derived.Laws.BitsLemmas
import Derived.Laws.BitsAllLaws
set_option linter.unusedVariables false
set_option linter.unusedSimpArgs false
set_option maxRecDepth 4000
namespace Go.Proofs.YtkcimmlaoipdkaaDoor.Pure
open Go.RowKit Go.Proofs.YtkcimmlaoipdkaaDoor.PFnPriority Go.Proofs.YtkcimmlaoipdkaaDoorW.PrintWords Go.Proofs.YtkcimmlaoipdkaaDoorW.PrintLast Go.Proofs.YtkcimmlaoipdkaaDoorW.PrintMore

/-! ### tools: what a printed function comes to -/
theorem evSucc {α : Type} {g : Nat → Option α} {r : α} (h : Ev (fun k => g (k + 1)) r) : Ev g r := Ev.step (fun _ => rfl) h
theorem evPos {α : Type} {c : Prop} {dc : Decidable c} {a b : Nat → Option α} {r : α} (h : c) (e : Ev a r) : Ev (fun k => if c then a k else b k) r :=
  Ev.congr (fun _ => if_pos h) e
theorem evNeg {α : Type} {c : Prop} {dc : Decidable c} {a b : Nat → Option α} {r : α} (h : ¬ c) (e : Ev b r) : Ev (fun k => if c then a k else b k) r :=
  Ev.congr (fun _ => if_neg h) e
theorem evSplit {α : Type} {c : Prop} {dc : Decidable c} {a b : Nat → Option α} {r : α} (h : c → Ev a r) (h' : ¬ c → Ev b r) : Ev (fun k => if c then a k else b k) r := by
  by_cases hc : c
  · exact evPos hc (h hc)
  · exact evNeg hc (h' hc)
theorem evBind {α β : Type} {g : Nat → Option α} {f : Nat → α → Option β} {a : α} {r : β} (h : Ev g a) (k : Ev (fun n => f n a) r) : Ev (fun n => (g n).bind (f n)) r := Ev.bind h k
theorem evPut {α β : Type} {o : Option α} {f : Nat → α → Option β} {a : α} {r : β} (h : o = some a) (k : Ev (fun n => f n a) r) : Ev (fun n => o.bind (f n)) r :=
  Ev.congr (fun _ => by rw [h]; rfl) k
theorem evNow {α : Type} {r r' : α} (h : r = r') : Ev (fun _ => some r) r' := h ▸ Ev.now r
theorem evOf {α : Type} {o : Option α} {r : α} (h : o = some r) : Ev (fun _ => o) r := ⟨0, fun _ _ => h⟩
theorem evEnds {α : Type} {g : Nat → Option α} {r : α} (h : Ev g r) : ∃ k, g k = some r := Ev.rounds h
theorem w64 {x : Int} (h : -9223372036854775808 ≤ x) (h' : x ≤ 9223372036854775807) : wrap64 x = x := by unfold wrap64; omega
theorem w64succ (i : Nat) (h : i < 4611686018427387904) : wrap64 ((i : Int) + 1) = ((i + 1 : Nat) : Int) := by unfold wrap64; omega
theorem wfI {x : Int} (h : (Lit.int .i64 x).wf = true) : -9223372036854775808 ≤ x ∧ x ≤ 9223372036854775807 := by
  simp only [Lit.wf, IntKind.min, IntKind.max, IntKind.bits, IntKind.signed, Bool.and_eq_true, decide_eq_true_eq] at h
  simpa using h
theorem wfB {x : Int} (h : (Lit.int .u8 x).wf = true) : 0 ≤ x ∧ x ≤ 255 := by
  simp only [Lit.wf, IntKind.min, IntKind.max, IntKind.bits, IntKind.signed, Bool.and_eq_true, decide_eq_true_eq] at h
  simpa using h
theorem rdN (l : List Int) (i : Nat) (h : i < l.length) : rd l (i : Int) = l[i] := by simp [rd, List.getD_eq_getElem?_getD, h]
theorem fillStep {α : Type} (l : List α) (z : α) (i d : Nat) (h : i + (d + 1) = l.length) : (l.take i ++ List.replicate (d + 1) z).set i (l[i]'(by omega)) = l.take (i + 1) ++ List.replicate d z := by
  rw [List.set_append_right _ _ (by simp; omega), List.take_succ_eq_append_getElem (show i < l.length by omega), List.append_assoc]
  congr 1
  have e : i - (l.take i).length = 0 := by simp; omega
  rw [e]
  rfl
theorem evCast {α : Type} {g : Nat → Option α} {r r' : α} (h : Ev g r') (e : r' = r) : Ev g r := e ▸ h

/-! ### the source of drawn choices -/
/-- A state of the source from which at least 'b' bytes more may be drawn. -/
structure Src (code : List Int) (b at_ seed : Int) : Prop where
  len : code.length ≤ 1048576
  byte : ∀ x ∈ code, 0 ≤ x ∧ x ≤ 255
  lo : 0 ≤ at_
  hi : at_ + b ≤ 100000000000
  s0 : 0 ≤ seed
  s1 : seed < 2147483648
theorem Src.less {code : List Int} {b b' at_ seed : Int} (h : Src code b at_ seed) (hb : b' ≤ b) : Src code b' at_ seed := ⟨h.len, h.byte, h.lo, by have := h.hi; omega, h.s0, h.s1⟩
theorem rdBy {b : List Int} (hb : ∀ x ∈ b, 0 ≤ x ∧ x ≤ 255) (i : Int) : 0 ≤ rd b i ∧ rd b i ≤ 255 := by
  unfold rd
  by_cases h : i.toNat < b.length
  · rw [List.getD_eq_getElem?_getD, List.getElem?_eq_getElem h]; exact hb _ (List.getElem_mem h)
  · simp [List.getD_eq_getElem?_getD, List.getElem?_eq_none (Nat.le_of_not_lt h)]
theorem src_byte {code : List Int} {b at_ seed : Int} (hb : 0 ≤ b) (h : Src code (b + 1) at_ seed) : ∃ r s', spec_l01Src_byte.f code at_ seed = some (r, at_ + 1, s') ∧ 0 ≤ r ∧ r ≤ 255 ∧ Src code b (at_ + 1) s' := by
  obtain ⟨h1, h2, h3, h4, h5, h6⟩ := h
  have hr := rdBy h2 at_
  unfold spec_l01Src_byte.f
  rw [if_pos ⟨h3, by omega, h5, h6, by omega⟩]
  by_cases c1 : at_ < (code.length : Int)
  · rw [if_pos c1, if_pos hr]
    exact ⟨_, _, rfl, hr.1, hr.2, h1, h2, by omega, by omega, by omega, by omega⟩
  · rw [if_neg c1]
    by_cases c2 : 4000 + 4 * (code.length : Int) < at_ + 1
    · rw [if_pos c2]
      exact ⟨_, _, rfl, by omega, by omega, h1, h2, by omega, by omega, by omega, by omega⟩
    · rw [if_neg c2]
      exact ⟨_, _, rfl, by omega, by omega, h1, h2, by omega, by omega, by omega, by omega⟩
theorem src_next {code : List Int} {b at_ seed : Int} (n : Int) (hn : n ≤ 2147483648) (hb : 0 ≤ b) (h : Src code (b + 3) at_ seed) :
    ∃ r a' s', spec_l01Src_next.f code at_ seed n = some (r, a', s') ∧ 0 ≤ r ∧ (1 ≤ n → r < n) ∧ (n ≤ 1 → r = 0) ∧ Src code b a' s' := by
  unfold spec_l01Src_next.f
  by_cases c1 : n ≤ 1
  · rw [if_pos c1]
    exact ⟨0, at_, seed, rfl, by omega, by omega, fun _ => rfl, h.less (by omega)⟩
  rw [if_neg c1]
  by_cases c2 : n ≤ 256
  · rw [if_pos c2]
    obtain ⟨r, s', e, h0, h1, h'⟩ := src_byte (b := b + 2) (by omega) (h.less (by omega))
    rw [e]
    simp only [Option.bind_some]
    rw [if_neg (by omega), Int.tmod_eq_emod_of_nonneg h0]
    exact ⟨_, _, _, rfl, Int.emod_nonneg _ (by omega), fun _ => Int.emod_lt_of_pos _ (by omega), by omega, h'.less (by omega)⟩
  · rw [if_neg c2]
    obtain ⟨r1, s1, e1, g0, g1, h1⟩ := src_byte (b := b + 2) (by omega) (h.less (by omega))
    rw [e1]
    simp only [Option.bind_some]
    obtain ⟨r2, s2, e2, g2, g3, h2⟩ := src_byte (b := b + 1) (by omega) (h1.less (by omega))
    rw [e2]
    simp only [Option.bind_some]
    obtain ⟨r3, s3, e3, g4, g5, h3⟩ := src_byte (b := b) hb h2
    rw [e3]
    simp only [Option.bind_some]
    rw [if_neg (by omega), w64 (x := r1 * 65536) (by omega) (by omega), w64 (x := r2 * 256) (by omega) (by omega), w64 (x := r1 * 65536 + r2 * 256) (by omega) (by omega), w64 (x := r1 * 65536 + r2 * 256 + r3) (by omega) (by omega), Int.tmod_eq_emod_of_nonneg (by omega)]
    exact ⟨_, _, _, rfl, Int.emod_nonneg _ (by omega), fun _ => Int.emod_lt_of_pos _ (by omega), by omega, h3⟩
theorem src_chance {code : List Int} {b at_ seed : Int} (n : Int) (hn : n ≤ 2147483648) (hb : 0 ≤ b) (h : Src code (b + 3) at_ seed) :
    ∃ r a' s', spec_l01Src_chance.f code at_ seed n = some (r, a', s') ∧ Src code b a' s' := by
  unfold spec_l01Src_chance.f
  obtain ⟨r, a', s', e, _, _, _, h'⟩ := src_next n hn hb h
  rw [e]
  exact ⟨_, _, _, rfl, h'⟩
theorem src_start (code : List Int) (h1 : code.length ≤ 1048576) (h2 : ∀ x ∈ code, 0 ≤ x ∧ x ≤ 255) : Src code 99999999999 0 ((code.length : Int) % 1000) := ⟨h1, h2, by omega, by omega, by omega, by omega⟩

theorem lenD (s : ByteArray) : s.data.toList.length = s.size := by rw [Array.length_toList]; rfl
theorem btL (s : ByteArray) (i : Nat) (h : i < s.data.toList.length) : bt s (i : Int) = ((s.data.toList[i]).toNat : Int) := by
  have h2 : i < s.size := by rw [lenD] at h; exact h
  have e := bt_at s (i : Int) (by simpa using h2)
  rw [← e]
  rfl
def mkB (l : List UInt8) : ByteArray := ⟨l.toArray⟩
theorem mkB_of (s : ByteArray) : mkB s.data.toList = s := by cases s; simp [mkB]
theorem mkB_size (l : List UInt8) : (mkB l).size = l.length := by simp [mkB, ByteArray.size]
theorem mkB_list (l : List UInt8) : (mkB l).data.toList = l := by simp [mkB]
theorem mkB_ext (l : List UInt8) (a b : Nat) : (mkB l).extract a b = mkB ((l.take b).drop a) := by
  have e : ((mkB l).extract a b).data.toList = (l.take b).drop a := by
    rw [ByteArray.data_extract]
    simp [mkB, List.drop_take]
  rw [← mkB_of ((mkB l).extract a b), e]
theorem mkB_bt (l : List UInt8) (i : Nat) (h : i < l.length) : bt (mkB l) (i : Int) = (l[i]).toNat := by
  have := btL (mkB l) i (by rw [mkB_list]; exact h)
  simpa only [mkB_list] using this
theorem trimR_concat (t : List UInt8) (a : UInt8) : Go.Lib.trimRightB (t ++ [a]) 32 = if a = 32 then Go.Lib.trimRightB t 32 else t ++ [a] := by
  unfold Go.Lib.trimRightB
  rw [List.reverse_append]
  show ((a :: t.reverse).dropWhile (· == 32)).reverse = _
  rw [List.dropWhile_cons]
  by_cases h : a = 32
  · rw [if_pos h, if_pos (by simpa using h)]
  · rw [if_neg h, if_neg (by simpa using h)]
    simp
theorem trimR_cons (a : UInt8) (t : List UInt8) : Go.Lib.trimRightB (a :: t) 32 = if Go.Lib.trimRightB t 32 = [] then (if a = 32 then [] else [a]) else a :: Go.Lib.trimRightB t 32 := by
  unfold Go.Lib.trimRightB
  rw [List.reverse_cons, List.dropWhile_append]
  by_cases h : (t.reverse.dropWhile (· == 32)) = []
  · rw [h]
    simp only [List.isEmpty_nil, if_true, List.reverse_nil]
    by_cases ha : a = 32
    · simp [List.dropWhile, ha]
    · have hb : (a == 32) = false := by simpa using ha
      simp [List.dropWhile, ha, hb]
  · have h1 : (t.reverse.dropWhile (· == 32)).isEmpty = false := by simpa using h
    have h2 : ¬ (t.reverse.dropWhile (· == 32)).reverse = [] := by simpa using h
    rw [h1, if_neg h2]
    simp
theorem trim_comm (l : List UInt8) : Go.Lib.trimB l 32 = Go.Lib.trimRightB (Go.Lib.trimLeftB l 32) 32 := by
  unfold Go.Lib.trimB
  induction l with
  | nil => rfl
  | cons a t ih =>
    rw [trimR_cons]
    by_cases ha : a = 32
    · subst ha
      have e : Go.Lib.trimLeftB ((32 : UInt8) :: t) 32 = Go.Lib.trimLeftB t 32 := rfl
      rw [e, ← ih]
      by_cases h : Go.Lib.trimRightB t 32 = []
      · rw [if_pos h, if_pos rfl, h]
      · rw [if_neg h]
        rfl
    · have e : ∀ q, Go.Lib.trimLeftB (a :: q) 32 = a :: q := fun q => by
        unfold Go.Lib.trimLeftB
        rw [List.dropWhile_cons, if_neg (by simpa using ha)]
      rw [e, trimR_cons]
      by_cases h : Go.Lib.trimRightB t 32 = []
      · rw [if_pos h, if_neg ha, e]
      · rw [if_neg h, e]
theorem trimL_cons (a : UInt8) (t : List UInt8) : Go.Lib.trimLeftB (a :: t) 32 = if a = 32 then Go.Lib.trimLeftB t 32 else a :: t := by
  unfold Go.Lib.trimLeftB
  rw [List.dropWhile_cons]
  by_cases ha : a = 32
  · rw [if_pos ha, if_pos (by simpa using ha)]
  · rw [if_neg ha, if_neg (by simpa using ha)]
theorem b32 (a : UInt8) : ((a.toNat : Int) = 32) ↔ a = 32 := by
  constructor
  · intro h
    apply UInt8.toNat_inj.1
    have : (32 : UInt8).toNat = 32 := rfl
    omega
  · rintro rfl
    rfl
theorem rp_l2 (x0 : ByteArray) (u : Int) (b : Bool) (r : Int × Bool) : ∀ l : List UInt8, l.length ≤ 2000 → Ev (fun k => spec_ReadPriority.j4 k x0 u b (mkB (Go.Lib.trimLeftB l 32))) r → Ev (fun k => spec_ReadPriority.l2 k x0 u b (mkB l)) r
  | [], _, h => by
    refine evSucc ?_
    simp only [spec_ReadPriority.l2]
    exact evNeg (by rw [mkB_size]; simp) h
  | a :: t, hl, h => by
    refine evSucc ?_
    simp only [spec_ReadPriority.l2]
    have hb : bt (mkB (a :: t)) 0 = a.toNat := mkB_bt (a :: t) 0 (by simp)
    have hz : (mkB (a :: t)).size = t.length + 1 := by rw [mkB_size]; rfl
    have he : (mkB (a :: t)).extract 1 (mkB (a :: t)).size = mkB t := by rw [hz, mkB_ext]; simp
    rw [trimL_cons] at h
    refine evPos (by omega) (evPos (by omega) ?_)
    by_cases ha : a = 32
    · rw [if_pos ha] at h
      refine evPos (by rw [hb]; exact (b32 a).2 ha) (evPos (by omega) ?_)
      rw [he]
      exact rp_l2 x0 u b r t (by simp at hl; omega) h
    · rw [if_neg ha] at h
      exact evNeg (by rw [hb]; exact fun q => ha ((b32 a).1 q)) h
theorem rp_l3 (x0 : ByteArray) (u : Int) (b : Bool) (r : Int × Bool) : ∀ (n : Nat) (l : List UInt8), l.length = n → n ≤ 2000 → Ev (fun k => spec_ReadPriority.j6 k x0 u b (mkB (Go.Lib.trimRightB l 32))) r → Ev (fun k => spec_ReadPriority.l3 k x0 u b (mkB l)) r
  | 0, l, hn, _, h => by
    obtain rfl := List.length_eq_zero_iff.1 hn
    refine evSucc ?_
    simp only [spec_ReadPriority.l3]
    exact evNeg (by rw [mkB_size]; simp) h
  | n + 1, l, hn, hm, h => by
    rcases List.eq_nil_or_concat l with rfl | ⟨t, a, rfl⟩
    · simp at hn
    rw [List.concat_eq_append] at hn h ⊢
    have ht : t.length = n := by simpa using hn
    refine evSucc ?_
    simp only [spec_ReadPriority.l3]
    have hz : (mkB (t ++ [a])).size = n + 1 := by rw [mkB_size]; exact hn
    have e1 : wrap64 (((mkB (t ++ [a])).size : Int) - 1) = (n : Int) := by rw [hz, w64 (by omega) (by omega)]; omega
    have hb : bt (mkB (t ++ [a])) (n : Int) = a.toNat := by
      rw [mkB_bt (t ++ [a]) n (by omega)]
      simp [← ht]
    have he : (mkB (t ++ [a])).extract 0 (n : Int).toNat = mkB t := by rw [mkB_ext]; simp [← ht]
    rw [e1, trimR_concat] at *
    refine evPos (by omega) (evPos (by omega) (evPos (by omega) ?_))
    by_cases ha : a = 32
    · rw [if_pos ha] at h
      refine evPos (by rw [hb]; exact (b32 a).2 ha) (evPos (by omega) ?_)
      rw [he]
      exact rp_l3 x0 u b r n t ht (by omega) h
    · rw [if_neg ha] at h
      exact evNeg (by rw [hb]; exact fun q => ha ((b32 a).1 q)) h
theorem third_is (part : ByteArray) (h : part.size = 3) : third part = bt part 2 := by
  have ht : 2 < part.size := by omega
  have e := bt_at part (2 : Int) (by simpa using ht)
  unfold third
  rw [dif_pos ht, ← e]
  rfl
theorem rp_j6 (x0 : ByteArray) (u : Int) (b : Bool) (r : Int × Bool) (part : ByteArray) (h : Ev (fun k => spec_ReadPriority.l0 k x0 (stepOf (u, b) part).1 (stepOf (u, b) part).2) r) : Ev (fun k => spec_ReadPriority.j6 k x0 u b part) r := by
  refine evSucc ?_
  simp only [spec_ReadPriority.j6]
  have key : ∀ x : Bool, (x = true ↔ part.toList = [105] ∨ part.toList = [105, 61, 63, 49]) → Ev (fun k => spec_ReadPriority.j7 k x0 u b part x) r := by
    intro x hx
    refine evSucc ?_
    simp only [spec_ReadPriority.j7]
    cases x with
    | true =>
      have e : stepOf (u, b) part = (u, true) := if_pos (hx.1 rfl)
      rw [e] at h
      exact evPos rfl h
    | false =>
      have hn : ¬ (part.toList = [105] ∨ part.toList = [105, 61, 63, 49]) := fun q => by simpa using hx.2 q
      refine evNeg (by simp) ?_
      by_cases h2 : part.toList = [105, 61, 63, 48]
      · have e : stepOf (u, b) part = (u, false) := (if_neg hn).trans (if_pos h2)
        rw [e] at h
        exact evPos h2 h
      · refine evNeg h2 ?_
        have e0 : stepOf (u, b) part = if part.size = 3 ∧ (part.extract 0 2).toList = [117, 61] ∧ 48 ≤ third part ∧ third part ≤ 55 then (third part - 48, b) else (u, b) := (if_neg hn).trans (if_neg h2)
        rw [e0] at h
        by_cases h3 : part.size = 3
        · have ht := third_is part h3
          refine evPos (by omega) (evPos (by omega) (evPos (by omega) ?_))
          by_cases h4 : (part.extract 0 2).toList = [117, 61]
          · refine evPos h4 (evPos (by omega) ?_)
            by_cases h5 : bt part 2 ≥ 48
            · refine evPos h5 ?_
              by_cases h6 : bt part 2 ≤ 55
              · rw [if_pos ⟨h3, h4, by omega, by omega⟩, ht] at h
                refine evPos h6 ?_
                have em : (bt part 2 - 48) % 256 = bt part 2 - 48 := by omega
                rw [em]
                exact h
              · rw [if_neg (by rintro ⟨_, _, _, q⟩; omega)] at h
                exact evNeg h6 h
            · rw [if_neg (by rintro ⟨_, _, q, _⟩; omega)] at h
              exact evNeg h5 h
          · rw [if_neg (by rintro ⟨_, q, _⟩; exact h4 q)] at h
            exact evNeg h4 h
        · rw [if_neg (by rintro ⟨q, _⟩; exact h3 q)] at h
          exact evNeg (by omega) h
  by_cases h1 : part.toList = [105]
  · exact evPos h1 (key true ⟨fun _ => .inl h1, fun _ => rfl⟩)
  · refine evNeg h1 (key _ ?_)
    simp [h1]
theorem b44 (a : UInt8) : ((a.toNat : Int) = 44) ↔ a = 44 := by
  constructor
  · intro h
    apply UInt8.toNat_inj.1
    have : (44 : UInt8).toNat = 44 := rfl
    omega
  · rintro rfl
    rfl
theorem rp_l1 (l : List UInt8) (hl : l.length ≤ 2000) (u : Int) (b : Bool) (r : Int × Bool) (n : Nat) (hn : n ≤ l.length) (hno : ∀ k, k < n → l[k]? ≠ some 44) (hat : n < l.length → l[n]? = some 44)
    (h : Ev (fun k => spec_ReadPriority.j2 k (mkB l) u b (n : Int)) r) : ∀ (d i : Nat), i + d = n → Ev (fun k => spec_ReadPriority.l1 k (mkB l) u b (i : Int)) r
  | 0, i, hi => by
    obtain rfl : i = n := by omega
    refine evSucc ?_
    simp only [spec_ReadPriority.l1]
    have hz := mkB_size l
    by_cases hlt : i < l.length
    · have hb := mkB_bt l i hlt
      have ha : l[i] = 44 := by
        have := hat hlt
        rw [List.getElem?_eq_getElem hlt] at this
        exact Option.some.inj this
      exact evPos (by omega) (evPos (by omega) (evPos (by rw [hb]; exact (b44 _).2 ha) h))
    · exact evNeg (by omega) h
  | d + 1, i, hi => by
    refine evSucc ?_
    simp only [spec_ReadPriority.l1]
    have hz := mkB_size l
    have hlt : i < l.length := by omega
    have hb := mkB_bt l i hlt
    have ha : ¬ l[i] = 44 := by
      have := hno i (by omega)
      rw [List.getElem?_eq_getElem hlt] at this
      exact fun q => this (by rw [q])
    refine evPos (by omega) (evPos (by omega) (evNeg (by rw [hb]; exact fun q => ha ((b44 _).1 q)) ?_))
    rw [w64succ i (by omega)]
    exact rp_l1 l hl u b r n hn hno hat h d (i + 1) (by omega)
theorem rp_cut (l : List UInt8) (hl : l.length ≤ 2000) (n : Nat) (hn : n ≤ l.length) (u : Int) (b : Bool) (r : Int × Bool)
    (h : Ev (fun k => spec_ReadPriority.l0 k (mkB (l.drop (n + 1))) (partStep (u, b) (mkB (l.take n))).1 (partStep (u, b) (mkB (l.take n))).2) r) : Ev (fun k => spec_ReadPriority.j2 k (mkB l) u b (n : Int)) r := by
  refine evSucc ?_
  simp only [spec_ReadPriority.j2]
  have hz := mkB_size l
  rw [w64succ n (by omega)]
  have hm : 0 ≤ mn ((n + 1 : Nat) : Int) ((mkB l).size : Int) ∧ mn ((n + 1 : Nat) : Int) ((mkB l).size : Int) ≤ (mkB l).size ∧ l.drop (mn ((n + 1 : Nat) : Int) ((mkB l).size : Int)).toNat = l.drop (n + 1) := by
    rw [hz]
    unfold mn
    split
    · refine ⟨by omega, by omega, ?_⟩
      rw [Int.toNat_natCast, List.drop_of_length_le (Nat.le_refl _), List.drop_of_length_le (by omega)]
    · exact ⟨by omega, by omega, rfl⟩
  obtain ⟨h1, h2, h3⟩ := hm
  refine evPos (by omega) (evPos (by omega) (evPos h1 (evPos h2 ?_)))
  have e1 : (mkB l).extract (mn ((n + 1 : Nat) : Int) ((mkB l).size : Int)).toNat (mkB l).size = mkB (l.drop (n + 1)) := by
    rw [mkB_ext, hz, List.take_of_length_le (Nat.le_refl _), ← h3, hz]
  have e2 : (mkB l).extract 0 ((n : Int)).toNat = mkB (l.take n) := by rw [mkB_ext]; simp
  rw [e1, e2]
  refine rp_l2 _ u b r (l.take n) (by simp; omega) (evSucc ?_)
  simp only [spec_ReadPriority.j4]
  refine rp_l3 _ u b r _ _ rfl ?_ ?_
  · have : (Go.Lib.trimLeftB (l.take n) 32).length ≤ (l.take n).length := (List.dropWhile_sublist _).length_le
    simp at this
    omega
  · rw [← trim_comm]
    refine rp_j6 _ u b r _ ?_
    have e3 : partStep (u, b) (mkB (l.take n)) = stepOf (u, b) (mkB (Go.Lib.trimB (l.take n) 32)) := by
      unfold partStep
      rw [mkB_list]
      rfl
    rw [← e3]
    exact h
theorem rp_empty (p : Int × Bool) : partStep p (mkB []) = p := by
  have e : partStep p (mkB []) = stepOf p (mkB []) := rfl
  rw [e]
  have hl : (mkB []).toList = [] := by rw [Go.Lib.toList_data]; rfl
  unfold stepOf
  rw [hl, if_neg (by decide), if_neg (by decide), if_neg (by rintro ⟨q, _⟩; cases q)]
theorem rp_end (u : Int) (b : Bool) : Ev (fun k => spec_ReadPriority.l0 k (mkB []) u b) (u, b) := by
  refine evSucc ?_
  simp only [spec_ReadPriority.l0]
  exact evNeg (by decide) (Ev.now _)
theorem rp_l0 : ∀ (d : Nat) (l : List UInt8) (u : Int) (b : Bool), l.length ≤ d → l.length ≤ 1024 → Ev (fun k => spec_ReadPriority.l0 k (mkB l) u b) ((piecesN 44 d (mkB l)).foldl partStep (u, b))
  | 0, l, u, b, hd, _ => by
    obtain rfl := List.length_eq_zero_iff.1 (Nat.le_zero.1 hd)
    exact evCast (rp_end u b) (rp_empty _).symm
  | d + 1, l, u, b, hd, hl => by
    by_cases h0 : l = []
    · subst h0
      exact evCast (rp_end u b) (rp_empty _).symm
    have hp := List.length_pos_iff.2 h0
    have hz := mkB_size l
    refine evSucc ?_
    simp only [spec_ReadPriority.l0]
    refine evPos (by omega) ?_
    have e : piecesN 44 (d + 1) (mkB l) = if Go.Lib.indexByte l 44 < 0 then [mkB l] else (mkB l).extract 0 (Go.Lib.indexByte l 44).toNat :: piecesN 44 d ((mkB l).extract ((Go.Lib.indexByte l 44).toNat + 1) (mkB l).size) := by
      have e1 : piecesN 44 (d + 1) (mkB l) = if Go.Lib.indexByte (mkB l).data.toList 44 < 0 then [mkB l] else (mkB l).extract 0 (Go.Lib.indexByte (mkB l).data.toList 44).toNat :: piecesN 44 d ((mkB l).extract ((Go.Lib.indexByte (mkB l).data.toList 44).toNat + 1) (mkB l).size) := rfl
      rw [e1, mkB_list]
    rcases idx_range 44 l with hi | ⟨hi0, hi1⟩
    · rw [e, if_pos (by rw [hi]; decide)]
      refine rp_l1 l (by omega) u b _ l.length (Nat.le_refl _) (fun k _ => Go.Lib.indexByte_none hi k) (fun q => by omega) (rp_cut l (by omega) l.length (Nat.le_refl _) u b _ ?_) l.length 0 (by omega)
      rw [List.drop_of_length_le (by omega), List.take_of_length_le (Nat.le_refl _)]
      exact rp_end _ _
    · obtain ⟨n, hn⟩ : ∃ n : Nat, Go.Lib.indexByte l 44 = n := ⟨(Go.Lib.indexByte l 44).toNat, by omega⟩
      rw [hn] at hi1
      obtain ⟨s1, s2⟩ := Go.Lib.indexByte_some hn
      rw [e, hn, if_neg (by omega), Int.toNat_natCast, hz, mkB_ext, mkB_ext, List.take_of_length_le (Nat.le_refl l.length)]
      refine rp_l1 l (by omega) u b _ n (by omega) s2 (fun _ => s1) (rp_cut l (by omega) n (by omega) u b _ ?_) n 0 (by omega)
      exact rp_l0 d (l.drop (n + 1)) _ _ (by simp; omega) (by simp; omega)
theorem readP_spec (s : ByteArray) : Ev (fun k => spec_ReadPriority.f k s) (readP s) := by
  unfold spec_ReadPriority.f readP
  by_cases h1 : 1024 < s.size
  · rw [if_pos h1]
    exact evPos (by omega) (Ev.now _)
  · rw [if_neg h1]
    refine evNeg (by omega) ?_
    have := rp_l0 s.size s.data.toList 3 false (by rw [lenD]; exact Nat.le_refl _) (by rw [lenD]; omega)
    rwa [mkB_of] at this

theorem itoa8 (n : Nat) (h : n < 8) : strconv_Itoa.f (n : Int) = some (strOfNums [(wrap64 (48 + (n : Int))) % 256]) := by
  unfold strconv_Itoa.f
  rw [if_pos ⟨by omega, by omega⟩, Int.toNat_natCast]
  unfold Go.Lib.decDigits
  rw [dif_pos (by omega)]
  have h8 : n = 0 ∨ n = 1 ∨ n = 2 ∨ n = 3 ∨ n = 4 ∨ n = 5 ∨ n = 6 ∨ n = 7 := by omega
  rcases h8 with rfl | rfl | rfl | rfl | rfl | rfl | rfl | rfl
  all_goals (show _ = _; kernel_rfl)

/-! ### a text cut at its commas, and what its last parts leave -/
def spl : List UInt8 → List (List UInt8)
  | [] => [[]]
  | a :: t => if a = 44 then [] :: spl t else match spl t with
    | [] => [[a]]
    | h :: r => (a :: h) :: r
theorem spl_some (l : List UInt8) : ∃ h r, spl l = h :: r := by
  cases l with
  | nil => exact ⟨_, _, rfl⟩
  | cons a t =>
    unfold spl
    by_cases h : a = 44
    · rw [if_pos h]; exact ⟨_, _, rfl⟩
    · rw [if_neg h]
      split <;> exact ⟨_, _, rfl⟩
theorem spl_cat (b : List UInt8) : ∀ a : List UInt8, spl (a ++ 44 :: b) = spl a ++ spl b
  | [] => rfl
  | a :: t => by
    have ih := spl_cat b t
    have e : ∀ q, spl (a :: q) = if a = 44 then [] :: spl q else match spl q with
      | [] => [[a]]
      | h :: r => (a :: h) :: r := fun _ => rfl
    rw [List.cons_append, e, e, ih]
    by_cases h : a = 44
    · rw [if_pos h, if_pos h]; rfl
    · obtain ⟨h1, r1, e1⟩ := spl_some t
      rw [if_neg h, if_neg h, e1]
      rfl
theorem spl_no : ∀ l : List UInt8, (∀ k : Nat, l[k]? ≠ some (44 : UInt8)) → spl l = [l]
  | [], _ => rfl
  | a :: t, h => by
    have ih := spl_no t (fun k => by have := h (k + 1); simpa using this)
    have ha : ¬ a = 44 := by have := h 0; simpa using this
    unfold spl
    rw [if_neg ha, ih]
theorem pieces_spl : ∀ (d : Nat) (l : List UInt8), l.length ≤ d → piecesN 44 d (mkB l) = (spl l).map mkB
  | 0, l, hd => by
    obtain rfl := List.length_eq_zero_iff.1 (Nat.le_zero.1 hd)
    rfl
  | d + 1, l, hd => by
    have e1 : piecesN 44 (d + 1) (mkB l) = if Go.Lib.indexByte (mkB l).data.toList 44 < 0 then [mkB l] else (mkB l).extract 0 (Go.Lib.indexByte (mkB l).data.toList 44).toNat :: piecesN 44 d ((mkB l).extract ((Go.Lib.indexByte (mkB l).data.toList 44).toNat + 1) (mkB l).size) := rfl
    rw [e1, mkB_list]
    rcases idx_range 44 l with hi | ⟨hi0, hi1⟩
    · rw [if_pos (by rw [hi]; decide), spl_no l (fun k => Go.Lib.indexByte_none hi k)]
      rfl
    · obtain ⟨n, hn⟩ : ∃ n : Nat, Go.Lib.indexByte l 44 = n := ⟨(Go.Lib.indexByte l 44).toNat, by omega⟩
      rw [hn] at hi1
      obtain ⟨s1, s2⟩ := Go.Lib.indexByte_some hn
      rw [hn, if_neg (by omega), Int.toNat_natCast, mkB_size, mkB_ext, mkB_ext, List.take_of_length_le (Nat.le_refl l.length), pieces_spl d (l.drop (n + 1)) (by simp; omega)]
      have hnl : n < l.length := by omega
      have hl : l = l.take n ++ 44 :: l.drop (n + 1) := by
        have h3 : l.drop n = l[n] :: l.drop (n + 1) := List.drop_eq_getElem_cons hnl
        have h4 : l[n] = 44 := by
          rw [List.getElem?_eq_getElem hnl] at s1
          exact Option.some.inj s1
        rw [h4] at h3
        rw [← h3, List.take_append_drop]
      have hs : spl (l.take n) = [l.take n] := spl_no _ (fun k => by
        rw [List.getElem?_take]
        split
        · exact s2 k (by omega)
        · simp)
      conv => rhs; rw [hl, spl_cat, hs]
      rfl
/-- What the parts of a list leave of an urgency and turns. -/
def rdL (p : Int × Bool) (l : List UInt8) : Int × Bool := ((spl l).map mkB).foldl partStep p
theorem rdL_cat (p : Int × Bool) (a b : List UInt8) : rdL p (a ++ 44 :: b) = rdL (rdL p a) b := by
  unfold rdL
  rw [spl_cat, List.map_append, List.foldl_append]
theorem rdL_one (p : Int × Bool) (l : List UInt8) (h : spl l = [l]) : rdL p l = partStep p (mkB l) := by
  unfold rdL
  rw [h]
  rfl
theorem readP_list (s : ByteArray) (h : s.size ≤ 1024) : readP s = rdL (3, false) s.data.toList := by
  unfold readP rdL
  rw [if_neg (by omega)]
  have := pieces_spl s.size s.data.toList (by rw [lenD]; exact Nat.le_refl _)
  rw [mkB_of] at this
  rw [this]
theorem stepT {p : Int × Bool} {part : ByteArray} (h : part.data.toList = [105]) : stepOf p part = (p.1, true) := if_pos (.inl (by rw [Go.Lib.toList_data]; exact h))
theorem stepF {p : Int × Bool} {part : ByteArray} (h : part.data.toList = [105, 61, 63, 48]) : stepOf p part = (p.1, false) := by
  unfold stepOf
  rw [Go.Lib.toList_data, h, if_neg (by decide), if_pos rfl]
theorem stepU {p : Int × Bool} (c : UInt8) (h0 : 48 ≤ c.toNat) (h7 : c.toNat ≤ 55) : stepOf p (mkB [117, 61, c]) = ((c.toNat : Int) - 48, p.2) := by
  have ht := third_is (mkB [117, 61, c]) rfl
  have hb : bt (mkB [117, 61, c]) 2 = c.toNat := mkB_bt [117, 61, c] 2 (by simp)
  unfold stepOf
  rw [Go.Lib.toList_data, mkB_list, if_neg (by rintro (h | h) <;> simp at h), if_neg (by simp), if_pos ⟨rfl, by rw [Go.Lib.toList_data]; rfl, by omega, by omega⟩, ht, hb]
theorem partOf (p : Int × Bool) (l t : List UInt8) (h : Go.Lib.trimB l 32 = t) : partStep p (mkB l) = stepOf p (mkB t) := by
  rw [← h]
  unfold partStep
  rw [mkB_list]
  rfl
/-- The text of an urgency, without and with turns. -/
theorem rdL_u (p : Int × Bool) (c : UInt8) (h0 : 48 ≤ c.toNat) (h7 : c.toNat ≤ 55) : rdL p [117, 61, c] = ((c.toNat : Int) - 48, p.2) := by
  have h44 : ¬ c = 44 := by rintro rfl; revert h0; decide
  have h32 : ¬ c = 32 := by rintro rfl; revert h0; decide
  rw [rdL_one _ _ (by simp [spl, h44]), partOf p [117, 61, c] [117, 61, c] ?_, stepU c h0 h7]
  simp [Go.Lib.trimB, Go.Lib.trimLeftB, Go.Lib.trimRightB, h32]
theorem rdL_ui (p : Int × Bool) (c : UInt8) (h0 : 48 ≤ c.toNat) (h7 : c.toNat ≤ 55) : rdL p [117, 61, c, 44, 32, 105] = ((c.toNat : Int) - 48, true) := by
  have e : ([117, 61, c, 44, 32, 105] : List UInt8) = [117, 61, c] ++ 44 :: [32, 105] := rfl
  rw [e, rdL_cat, rdL_u p c h0 h7, rdL_one _ _ (by decide), partOf _ [32, 105] [105] (by decide), stepT rfl]
theorem rdL_mid (p : Int × Bool) (l : List UInt8) : rdL p ([32, 105, 61, 63, 48, 32] ++ 44 :: l) = rdL (p.1, false) l := by
  rw [rdL_cat, rdL_one _ [32, 105, 61, 63, 48, 32] (by decide), partOf _ [32, 105, 61, 63, 48, 32] [105, 61, 63, 48] (by decide), stepF rfl]

/-! ### the drawn text -/
theorem rdOf_size (y : List ByteArray) (n : Nat) (h : ∀ x ∈ y, x.size ≤ n) (i : Int) : (rdOf ByteArray.empty y i).size ≤ n := by
  unfold rdOf
  rw [List.getD_eq_getElem?_getD]
  by_cases hi : i.toNat < y.length
  · rw [List.getElem?_eq_getElem hi]
    exact h _ (List.getElem_mem hi)
  · rw [List.getElem?_eq_none (Nat.le_of_not_lt hi)]
    exact Nat.zero_le _
theorem fill_loop (c a1 : Int) (n : Nat) (hn : (n : Int) = mx 0 a1) (hm : n ≤ 100000) : ∀ (d i : Nat) (l : List Int), i + d = n → l.length = n → ∃ r : List Int, Ev (fun k => spec_l07Fill.l0 k c a1 l (i : Int)) r ∧ r.length = n
  | 0, i, l, hi, hl => by
    refine ⟨l, evSucc ?_, hl⟩
    simp only [spec_l07Fill.l0]
    exact evNeg (by unfold mx at hn; split at hn <;> omega) (Ev.now _)
  | d + 1, i, l, hi, hl => by
    obtain ⟨r, h1, h2⟩ := fill_loop c a1 n hn hm d (i + 1) (l.set i c) (by omega) (by simpa using hl)
    refine ⟨r, evSucc ?_, h2⟩
    simp only [spec_l07Fill.l0]
    refine evPos (by unfold mx at hn; split at hn <;> omega) (evPos (by omega) (evPos (by omega) ?_))
    rw [w64succ i (by omega), Int.toNat_natCast]
    exact h1
theorem fill_some (c a1 : Int) (h : a1 ≤ 100000) : ∃ r : List Int, Ev (fun k => spec_l07Fill.f k c a1) r ∧ r.length ≤ 100000 := by
  have h0 : 0 ≤ mx 0 a1 ∧ mx 0 a1 ≤ 100000 := by unfold mx; split <;> omega
  obtain ⟨n, hn⟩ : ∃ n : Nat, (n : Int) = mx 0 a1 := ⟨(mx 0 a1).toNat, by omega⟩
  obtain ⟨r, h1, h2⟩ := fill_loop c a1 n hn (by omega) n 0 (List.replicate n 0) (by omega) (by simp)
  refine ⟨r, ?_, by omega⟩
  unfold spec_l07Fill.f
  rw [← hn, Int.toNat_natCast]
  exact evPos (by omega) (evPos (by omega) h1)
theorem strN_size (l : List Int) : (strOfNums l).size = l.length := by simp [strOfNums, ByteArray.size]
theorem dp_end {code : List Int} {at_ seed : Int} (x4 : ByteArray) (hx : x4.size ≤ 1000) (h : Src code 100 at_ seed) : ∃ r : ByteArray, Ev (fun k => spec_DrawReadPriority.l0 k x4 0 code at_ seed) r ∧ r.size ≤ 200000 := by
  obtain ⟨r1, a1, s1, e1, h1⟩ := src_chance (b := 90) 40 (by omega) (by omega) (h.less (by omega))
  cases r1 with
  | false =>
    refine ⟨x4, evSucc ?_, by omega⟩
    simp only [spec_DrawReadPriority.l0]
    exact evNeg (by omega) (evPut e1 (evNeg (by simp) (Ev.now _)))
  | true =>
    obtain ⟨r2, a2, s2, e2, p2, q2, _, h2⟩ := src_next (b := 80) 2 (by omega) (by omega) (h1.less (by omega))
    have q2 := q2 (by omega)
    obtain ⟨f, hf, hfl⟩ := fill_some 32 (wrap64 ((wrap64 (1019 - (x4.size : Int))) + r2)) (by rw [w64 (x := 1019 - (x4.size : Int)) (by omega) (by omega), w64 (by omega) (by omega)]; omega)
    have hz : (x4 ++ (⟨#[44, 32, 117, 61, 49]⟩ : ByteArray)).size = x4.size + 5 := by rw [ByteArray.size_append]; rfl
    have hs := strN_size f
    refine ⟨(x4 ++ (⟨#[44, 32, 117, 61, 49]⟩ : ByteArray)) ++ strOfNums f, evSucc ?_, ?_⟩
    · simp only [spec_DrawReadPriority.l0]
      exact evNeg (by omega) (evPut e1 (evPos rfl (evPos (by omega) (evPut e2 (evBind hf (evPos (by omega) (Ev.now _)))))))
    · rw [ByteArray.size_append]
      omega
theorem dp_loop {code : List Int} : ∀ (d : Nat) (x4 : ByteArray) (at_ seed : Int), d ≤ 6 → x4.size + 10 * d ≤ 1000 → Src code (100 * (d + 1)) at_ seed → ∃ r : ByteArray, Ev (fun k => spec_DrawReadPriority.l0 k x4 (d : Int) code at_ seed) r ∧ r.size ≤ 200000
  | 0, x4, at_, seed, _, hx, h => dp_end x4 (by omega) (h.less (by omega))
  | d + 1, x4, at_, seed, hd, hx, h => by
    obtain ⟨r1, a1, s1, e1, p1, q1, _, h1⟩ := src_next (b := 100 * (d + 1) + 90) 3 (by omega) (by omega) (h.less (by omega))
    have q1 := q1 (by omega)
    obtain ⟨r2, a2, s2, e2, p2, q2, _, h2⟩ := src_next (b := 100 * (d + 1) + 80) 12 (by omega) (by omega) (h1.less (by omega))
    have q2 := q2 (by omega)
    obtain ⟨r3, a3, s3, e3, p3, q3, _, h3⟩ := src_next (b := 100 * (d + 1) + 70) 2 (by omega) (by omega) (h2.less (by omega))
    have q3 := q3 (by omega)
    obtain ⟨r4, a4, s4, e4, h4⟩ := src_chance (b := 100 * (d + 1) + 60) 4 (by omega) (by omega) (h3.less (by omega))
    have z1 := rdOf_size [(⟨#[]⟩ : ByteArray), (⟨#[32]⟩ : ByteArray), (⟨#[32, 32]⟩ : ByteArray)] 2 (by decide) r1
    have z2 := rdOf_size [(⟨#[117, 61, 48]⟩ : ByteArray), (⟨#[117, 61, 55]⟩ : ByteArray), (⟨#[117, 61, 56]⟩ : ByteArray), (⟨#[117, 61]⟩ : ByteArray), (⟨#[117, 61, 51, 51]⟩ : ByteArray), (⟨#[105]⟩ : ByteArray), (⟨#[105, 61, 63, 49]⟩ : ByteArray), (⟨#[105, 61, 63, 48]⟩ : ByteArray), (⟨#[105, 61, 49]⟩ : ByteArray), (⟨#[120, 61, 53]⟩ : ByteArray), (⟨#[85, 61, 49]⟩ : ByteArray), (⟨#[117, 32, 61, 49]⟩ : ByteArray)] 4 (by decide) r2
    have z3 := rdOf_size [(⟨#[]⟩ : ByteArray), (⟨#[32]⟩ : ByteArray)] 1 (by decide) r3
    generalize hy1 : rdOf ByteArray.empty [(⟨#[]⟩ : ByteArray), (⟨#[32]⟩ : ByteArray), (⟨#[32, 32]⟩ : ByteArray)] r1 = y1 at z1
    generalize hy2 : rdOf ByteArray.empty [(⟨#[117, 61, 48]⟩ : ByteArray), (⟨#[117, 61, 55]⟩ : ByteArray), (⟨#[117, 61, 56]⟩ : ByteArray), (⟨#[117, 61]⟩ : ByteArray), (⟨#[117, 61, 51, 51]⟩ : ByteArray), (⟨#[105]⟩ : ByteArray), (⟨#[105, 61, 63, 49]⟩ : ByteArray), (⟨#[105, 61, 63, 48]⟩ : ByteArray), (⟨#[105, 61, 49]⟩ : ByteArray), (⟨#[120, 61, 53]⟩ : ByteArray), (⟨#[85, 61, 49]⟩ : ByteArray), (⟨#[117, 32, 61, 49]⟩ : ByteArray)] r2 = y2 at z2
    generalize hy3 : rdOf ByteArray.empty [(⟨#[]⟩ : ByteArray), (⟨#[32]⟩ : ByteArray)] r3 = y3 at z3
    have t1 : (x4 ++ y1).size ≤ x4.size + 2 := by rw [ByteArray.size_append]; omega
    have t2 : ((x4 ++ y1) ++ y2).size ≤ x4.size + 6 := by rw [ByteArray.size_append]; omega
    have t3 : (((x4 ++ y1) ++ y2) ++ y3).size ≤ x4.size + 7 := by rw [ByteArray.size_append]; omega
    have t4 : ((((x4 ++ y1) ++ y2) ++ y3) ++ (⟨#[44]⟩ : ByteArray)).size ≤ x4.size + 8 := by
      rw [ByteArray.size_append]
      have : (⟨#[44]⟩ : ByteArray).size = 1 := rfl
      omega
    have ew : wrap64 (((d + 1 : Nat) : Int) - 1) = (d : Int) := by rw [w64 (by omega) (by omega)]; omega
    have key : ∀ (x : ByteArray) (a s : Int) (r : ByteArray), x = x → Ev (fun k => spec_DrawReadPriority.l0 k x (d : Int) code a s) r → Ev (fun k => spec_DrawReadPriority.l0 k x (wrap64 (((d + 1 : Nat) : Int) - 1)) code a s) r := fun x a s r _ hh => by rw [ew]; exact hh
    by_cases hd1 : ((d + 1 : Nat) : Int) > 1
    · obtain ⟨r, g1, g2⟩ := dp_loop d ((((x4 ++ y1) ++ y2) ++ y3) ++ (⟨#[44]⟩ : ByteArray)) a3 s3 (by omega) (by omega) (h3.less (by omega))
      refine ⟨r, evSucc ?_, g2⟩
      simp only [spec_DrawReadPriority.l0]
      refine evPos (by omega) (evPut rfl (evPut e1 (evPos p1 (evPos (by simpa using q1) (evPos ?_ (evPut rfl (evPut e2 (evPos p2 (evPos (by simpa using q2) (evPos ?_ (evPut rfl (evPut e3 (evPos p3 (evPos (by simpa using q3) (evPos ?_ (evPos hd1 (evPos ?_ ?_)))))))))))))))))
      · simp only [hy1]; omega
      · simp only [hy1, hy2]; omega
      · simp only [hy1, hy2, hy3]; omega
      · simp only [hy1, hy2, hy3]; omega
      · simp only [hy1, hy2, hy3]; exact key _ _ _ _ rfl g1
    · cases r4 with
      | true =>
        obtain ⟨r, g1, g2⟩ := dp_loop d ((((x4 ++ y1) ++ y2) ++ y3) ++ (⟨#[44]⟩ : ByteArray)) a4 s4 (by omega) (by omega) (h4.less (by omega))
        refine ⟨r, evSucc ?_, g2⟩
        simp only [spec_DrawReadPriority.l0]
        refine evPos (by omega) (evPut rfl (evPut e1 (evPos p1 (evPos (by simpa using q1) (evPos ?_ (evPut rfl (evPut e2 (evPos p2 (evPos (by simpa using q2) (evPos ?_ (evPut rfl (evPut e3 (evPos p3 (evPos (by simpa using q3) (evPos ?_ (evNeg hd1 (evPut e4 (evPos rfl (evPos ?_ ?_)))))))))))))))))))
        · simp only [hy1]; omega
        · simp only [hy1, hy2]; omega
        · simp only [hy1, hy2, hy3]; omega
        · simp only [hy1, hy2, hy3]; omega
        · simp only [hy1, hy2, hy3]; exact key _ _ _ _ rfl g1
      | false =>
        obtain ⟨r, g1, g2⟩ := dp_loop d (((x4 ++ y1) ++ y2) ++ y3) a4 s4 (by omega) (by omega) (h4.less (by omega))
        refine ⟨r, evSucc ?_, g2⟩
        simp only [spec_DrawReadPriority.l0]
        refine evPos (by omega) (evPut rfl (evPut e1 (evPos p1 (evPos (by simpa using q1) (evPos ?_ (evPut rfl (evPut e2 (evPos p2 (evPos (by simpa using q2) (evPos ?_ (evPut rfl (evPut e3 (evPos p3 (evPos (by simpa using q3) (evPos ?_ (evNeg hd1 (evPut e4 (evNeg (by simp) ?_))))))))))))))))))
        · simp only [hy1]; omega
        · simp only [hy1, hy2]; omega
        · simp only [hy1, hy2, hy3]; omega
        · simp only [hy1, hy2, hy3]; exact key _ _ _ _ rfl g1
theorem draw_priority (code : List Int) (h1 : code.length ≤ 1048576) (h2 : ∀ x ∈ code, 0 ≤ x ∧ x ≤ 255) : ∃ r : ByteArray, Ev (fun k => spec_DrawReadPriority.f k code) r ∧ r.size ≤ 200000 := by
  have S0 := src_start code h1 h2
  obtain ⟨r1, a1, s1, e1, p1, q1, _, h1'⟩ := src_next (b := 5000) 6 (by omega) (by omega) (S0.less (by omega))
  have q1 := q1 (by omega)
  obtain ⟨n, hn⟩ : ∃ n : Nat, r1 = (n : Int) := ⟨r1.toNat, by omega⟩
  subst hn
  obtain ⟨r, g1, g2⟩ := dp_loop n (⟨#[]⟩ : ByteArray) a1 s1 (by omega) (by show 0 + 10 * n ≤ 1000; omega) (h1'.less (by omega))
  refine ⟨r, ?_, g2⟩
  unfold spec_DrawReadPriority.f spec_l01Source.f
  exact evPut rfl (evPut e1 g1)
/-! ### the text of an urgency -/
def ucode (u : Nat) : UInt8 := UInt8.ofNat (48 + u)
def ptxt (u : Nat) (b : Bool) : List UInt8 := if b = true then [117, 61, ucode u, 44, 32, 105] else [117, 61, ucode u]
theorem ucode_is (u : Nat) (h : u < 8) : (ucode u).toNat = 48 + u := by
  have h8 : u = 0 ∨ u = 1 ∨ u = 2 ∨ u = 3 ∨ u = 4 ∨ u = 5 ∨ u = 6 ∨ u = 7 := by omega
  rcases h8 with rfl | rfl | rfl | rfl | rfl | rfl | rfl | rfl <;> rfl
theorem ptxt_ne (u : Nat) (b : Bool) : ¬ (mkB (ptxt u b)).toList = ([] : List UInt8) := by
  rw [Go.Lib.toList_data, mkB_list]
  cases b <;> simp [ptxt]
theorem ptxt_size (u : Nat) (b : Bool) : (mkB (ptxt u b)).size ≤ 6 := by
  rw [mkB_size]
  cases b <;> simp [ptxt]
theorem rdL_text (p : Int × Bool) (hp : p.2 = false) (u : Nat) (h : u < 8) (b : Bool) : rdL p (ptxt u b) = ((u : Int), b) := by
  have hc := ucode_is u h
  have e : ((ucode u).toNat : Int) - 48 = (u : Int) := by omega
  cases b with
  | false =>
    show rdL p [117, 61, ucode u] = _
    rw [rdL_u p _ (by omega) (by omega), e, hp]
  | true =>
    show rdL p [117, 61, ucode u, 44, 32, 105] = _
    rw [rdL_ui p _ (by omega) (by omega), e]
theorem text_is (u : Nat) (h : u < 8) (b : Bool) : Ev (fun k => impl_PriorityText.f k (u : Int) b) (mkB (ptxt u b)) := by
  unfold impl_PriorityText.f
  have hd : decide ((u : Int) > 7) = false := decide_eq_false (by omega)
  rw [hd]
  refine evNeg (by omega) (evSucc ?_)
  simp only [impl_PriorityText.j0]
  have h1 : ∀ n : Int, (strOfNums [n]).size = 1 := fun _ => rfl
  have h2 : ((⟨#[117, 61]⟩ : ByteArray) ++ strOfNums [(wrap64 (48 + (u : Int))) % 256]).size + 3 ≤ 9223372036854775807 := by
    rw [ByteArray.size_append, h1]
    decide
  refine evNeg (by simp) (evPut (itoa8 u h) (evPos (by rw [h1]; omega) ?_))
  have h8 : u = 0 ∨ u = 1 ∨ u = 2 ∨ u = 3 ∨ u = 4 ∨ u = 5 ∨ u = 6 ∨ u = 7 := by omega
  cases b with
  | false =>
    refine evNeg (by simp) (evNow ?_)
    rcases h8 with rfl | rfl | rfl | rfl | rfl | rfl | rfl | rfl <;> kernel_rfl
  | true =>
    refine evPos rfl (evPos h2 (evNow ?_))
    rcases h8 with rfl | rfl | rfl | rfl | rfl | rfl | rfl | rfl <;> kernel_rfl
theorem read_text (u : Nat) (h : u < 8) (b : Bool) : impl_ReadPriority.f (mkB (ptxt u b)) = some ((u : Int), b) := by
  have hz := ptxt_size u b
  show some (readP (mkB (ptxt u b))) = _
  rw [readP_list _ (by omega), mkB_list, rdL_text _ rfl u h b]
theorem read_more (odd : ByteArray) (u : Nat) (h : u < 8) (b : Bool) (hz : odd.size + (mkB (ptxt u b)).size + 8 ≤ 1024) : impl_ReadPriority.f ((odd ++ (⟨#[44, 32, 105, 61, 63, 48, 32, 44]⟩ : ByteArray)) ++ mkB (ptxt u b)) = some ((u : Int), b) := by
  show some (readP _) = _
  have h8 : (⟨#[44, 32, 105, 61, 63, 48, 32, 44]⟩ : ByteArray).size = 8 := rfl
  rw [readP_list _ (by rw [ByteArray.size_append, ByteArray.size_append, h8]; omega)]
  have e : ((odd ++ (⟨#[44, 32, 105, 61, 63, 48, 32, 44]⟩ : ByteArray)) ++ mkB (ptxt u b)).data.toList = odd.data.toList ++ 44 :: ([32, 105, 61, 63, 48, 32] ++ 44 :: ptxt u b) := by
    rw [ByteArray.data_append, ByteArray.data_append, Array.toList_append, Array.toList_append, mkB_list]
    simp
  rw [e, rdL_cat, rdL_mid, rdL_text _ rfl u h b]
theorem bxor (b : Bool) : (b != b) = false := by cases b <;> rfl
theorem pr_l1 (odd : ByteArray) (hz : odd.size ≤ 200000) (u : Nat) (hu : u < 8) (v : Int) (hv : v < 2) (h : Ev (fun k => laws_FnPriority.l1 k odd (u : Int) (wrap64 (v + 1))) true) : Ev (fun k => laws_FnPriority.l1 k odd (u : Int) v) true := by
  obtain ⟨b, hb⟩ : ∃ b : Bool, (v == 1) = b := ⟨_, rfl⟩
  have hs := ptxt_size u b
  refine evSucc ?_
  simp only [laws_FnPriority.l1]
  rw [hb]
  refine evPos hv (evBind (text_is u hu b) (evNeg (ptxt_ne u b) (evPut (read_text u hu b) (evPos rfl (evSucc ?_)))))
  simp only [laws_FnPriority.j2]
  rw [hb]
  refine evNeg (by rw [bxor]; simp) (evSplit (fun hle => ?_) (fun _ => h))
  rw [w64 (x := (odd.size : Int) + ((mkB (ptxt u b)).size : Int)) (by omega) (by omega), w64 (by omega) (by omega)] at hle
  have h8 : (⟨#[44, 32, 105, 61, 63, 48, 32, 44]⟩ : ByteArray).size = 8 := rfl
  refine evPos (by omega) (evPos (by rw [ByteArray.size_append, h8]; omega) (evPut (read_more odd u hu b (by omega)) (evPos rfl (evNeg ?_ h))))
  rw [bxor]
  simp
theorem pr_l0 (odd : ByteArray) (hz : odd.size ≤ 200000) : ∀ (d u : Nat), u + d = 8 → Ev (fun k => laws_FnPriority.l0 k odd (u : Int)) true
  | 0, u, hu => by
    refine evSucc ?_
    simp only [laws_FnPriority.l0]
    refine evNeg (by omega) (evPut (a := readP odd) rfl (evBind (readP_spec odd) (evPos rfl (evPos (by simp) ?_))))
    have e1 : Ev (fun k => impl_PriorityText.f k 8 false) (⟨#[]⟩ : ByteArray) := by
      unfold impl_PriorityText.f
      refine evNeg (by omega) (evSucc ?_)
      simp only [impl_PriorityText.j0]
      exact evPos (by decide) (Ev.now _)
    have e2 : Ev (fun k => impl_PriorityText.f k (-1) true) (⟨#[]⟩ : ByteArray) := by
      unfold impl_PriorityText.f
      refine evPos (by omega) (evSucc ?_)
      simp only [impl_PriorityText.j0]
      exact evPos (by first | trivial | simp) (Ev.now _)
    have h0 : (⟨#[]⟩ : ByteArray).toList = ([] : List UInt8) := by rw [Go.Lib.toList_data]
    exact evBind e1 (evPos h0 (evBind e2 (evNow (by rw [h0]; rfl))))
  | d + 1, u, hu => by
    refine evSucc ?_
    simp only [laws_FnPriority.l0]
    refine evPos (by omega) (pr_l1 odd hz u (by omega) 0 (by omega) ?_)
    have e1 : wrap64 ((0 : Int) + 1) = 1 := w64 (by omega) (by omega)
    have e2 : wrap64 ((1 : Int) + 1) = 2 := w64 (by omega) (by omega)
    rw [e1]
    refine pr_l1 odd hz u (by omega) 1 (by omega) ?_
    rw [e2]
    refine evSucc ?_
    simp only [laws_FnPriority.l1]
    refine evNeg (by omega) ?_
    rw [w64succ u (by omega)]
    exact pr_l0 odd hz d (u + 1) (by omega)
theorem FnPriority : laws_FnPriority.Pure := by
  intro l0 _ _ hb
  refine evEnds ?_
  unfold laws_FnPriority.f
  refine evSplit (fun _ => Ev.now _) (fun h => ?_)
  obtain ⟨odd, hodd, hz⟩ := draw_priority l0 (by omega) (fun x hx => wfB (hb x hx))
  exact evBind hodd (pr_l0 odd hz 8 0 rfl)

end Go.Proofs.YtkcimmlaoipdkaaDoor.Pure
