/- The program's ReadPriority answers what the reference's ReadPriority answers, for every text. -/
import Derived.Test.YtkcimmlaoipdkaaDoorPFnExactReadPriorityx0
import Derived.Test.YtkcimmlaoipdkaaDoorPFnExactReadPriorityx1
import Derived.Test.YtkcimmlaoipdkaaDoorPFnExactReadPriorityx2
import Derived.Laws.BitsLemmas
import Derived.Laws.BitsAllLaws
set_option linter.unusedVariables false
set_option linter.unusedSimpArgs false
set_option maxRecDepth 4000
namespace Go.Proofs.YtkcimmlaoipdkaaDoor.Pure
open Go.RowKit Go.Proofs.YtkcimmlaoipdkaaDoor.PFnExactReadPriority Go.Proofs.YtkcimmlaoipdkaaDoorW.PrintWords Go.Proofs.YtkcimmlaoipdkaaDoorW.PrintLast Go.Proofs.YtkcimmlaoipdkaaDoorW.PrintMore

/-! ### tools: what a printed function comes to -/
theorem evSucc {α : Type} {g : Nat → Option α} {r : α} (h : Ev (fun k => g (k + 1)) r) : Ev g r := Ev.step (fun _ => rfl) h
theorem evPos {α : Type} {c : Prop} {dc : Decidable c} {a b : Nat → Option α} {r : α} (h : c) (e : Ev a r) : Ev (fun k => if c then a k else b k) r :=
  Ev.congr (fun _ => if_pos h) e
theorem evNeg {α : Type} {c : Prop} {dc : Decidable c} {a b : Nat → Option α} {r : α} (h : ¬ c) (e : Ev b r) : Ev (fun k => if c then a k else b k) r :=
  Ev.congr (fun _ => if_neg h) e
theorem evSplit {α : Type} {c : Prop} {dc : Decidable c} {a b : Nat → Option α} {r : α} (h : c → Ev a r) (h' : ¬ c → Ev b r) : Ev (fun k => if c then a k else b k) r := by
  by_cases hc : c
  · exact evPos hc (h hc)
  · exact evNeg hc (h' hc)
theorem evBind {α β : Type} {g : Nat → Option α} {f : Nat → α → Option β} {a : α} {r : β} (h : Ev g a) (k : Ev (fun n => f n a) r) : Ev (fun n => (g n).bind (f n)) r := Ev.bind h k
theorem evPut {α β : Type} {o : Option α} {f : Nat → α → Option β} {a : α} {r : β} (h : o = some a) (k : Ev (fun n => f n a) r) : Ev (fun n => o.bind (f n)) r :=
  Ev.congr (fun _ => by rw [h]; rfl) k
theorem evNow {α : Type} {r r' : α} (h : r = r') : Ev (fun _ => some r) r' := h ▸ Ev.now r
theorem evOf {α : Type} {o : Option α} {r : α} (h : o = some r) : Ev (fun _ => o) r := ⟨0, fun _ _ => h⟩
theorem evEnds {α : Type} {g : Nat → Option α} {r : α} (h : Ev g r) : ∃ k, g k = some r := Ev.rounds h
theorem w64 {x : Int} (h : -9223372036854775808 ≤ x) (h' : x ≤ 9223372036854775807) : wrap64 x = x := by unfold wrap64; omega
theorem w64succ (i : Nat) (h : i < 4611686018427387904) : wrap64 ((i : Int) + 1) = ((i + 1 : Nat) : Int) := by unfold wrap64; omega
theorem wfI {x : Int} (h : (Lit.int .i64 x).wf = true) : -9223372036854775808 ≤ x ∧ x ≤ 9223372036854775807 := by
  simp only [Lit.wf, IntKind.min, IntKind.max, IntKind.bits, IntKind.signed, Bool.and_eq_true, decide_eq_true_eq] at h
  simpa using h
theorem wfB {x : Int} (h : (Lit.int .u8 x).wf = true) : 0 ≤ x ∧ x ≤ 255 := by
  simp only [Lit.wf, IntKind.min, IntKind.max, IntKind.bits, IntKind.signed, Bool.and_eq_true, decide_eq_true_eq] at h
  simpa using h
theorem rdN (l : List Int) (i : Nat) (h : i < l.length) : rd l (i : Int) = l[i] := by simp [rd, List.getD_eq_getElem?_getD, h]
theorem fillStep {α : Type} (l : List α) (z : α) (i d : Nat) (h : i + (d + 1) = l.length) : (l.take i ++ List.replicate (d + 1) z).set i (l[i]'(by omega)) = l.take (i + 1) ++ List.replicate d z := by
  rw [List.set_append_right _ _ (by simp; omega), List.take_succ_eq_append_getElem (show i < l.length by omega), List.append_assoc]
  congr 1
  have e : i - (l.take i).length = 0 := by simp; omega
  rw [e]
  rfl
theorem evCast {α : Type} {g : Nat → Option α} {r r' : α} (h : Ev g r') (e : r' = r) : Ev g r := e ▸ h

theorem lenD (s : ByteArray) : s.data.toList.length = s.size := by rw [Array.length_toList]; rfl
theorem btL (s : ByteArray) (i : Nat) (h : i < s.data.toList.length) : bt s (i : Int) = ((s.data.toList[i]).toNat : Int) := by
  have h2 : i < s.size := by rw [lenD] at h; exact h
  have e := bt_at s (i : Int) (by simpa using h2)
  rw [← e]
  rfl
def mkB (l : List UInt8) : ByteArray := ⟨l.toArray⟩
theorem mkB_of (s : ByteArray) : mkB s.data.toList = s := by cases s; simp [mkB]
theorem mkB_size (l : List UInt8) : (mkB l).size = l.length := by simp [mkB, ByteArray.size]
theorem mkB_list (l : List UInt8) : (mkB l).data.toList = l := by simp [mkB]
theorem mkB_ext (l : List UInt8) (a b : Nat) : (mkB l).extract a b = mkB ((l.take b).drop a) := by
  have e : ((mkB l).extract a b).data.toList = (l.take b).drop a := by
    rw [ByteArray.data_extract]
    simp [mkB, List.drop_take]
  rw [← mkB_of ((mkB l).extract a b), e]
theorem mkB_bt (l : List UInt8) (i : Nat) (h : i < l.length) : bt (mkB l) (i : Int) = (l[i]).toNat := by
  have := btL (mkB l) i (by rw [mkB_list]; exact h)
  simpa only [mkB_list] using this
theorem trimR_concat (t : List UInt8) (a : UInt8) : Go.Lib.trimRightB (t ++ [a]) 32 = if a = 32 then Go.Lib.trimRightB t 32 else t ++ [a] := by
  unfold Go.Lib.trimRightB
  rw [List.reverse_append]
  show ((a :: t.reverse).dropWhile (· == 32)).reverse = _
  rw [List.dropWhile_cons]
  by_cases h : a = 32
  · rw [if_pos h, if_pos (by simpa using h)]
  · rw [if_neg h, if_neg (by simpa using h)]
    simp
theorem trimR_cons (a : UInt8) (t : List UInt8) : Go.Lib.trimRightB (a :: t) 32 = if Go.Lib.trimRightB t 32 = [] then (if a = 32 then [] else [a]) else a :: Go.Lib.trimRightB t 32 := by
  unfold Go.Lib.trimRightB
  rw [List.reverse_cons, List.dropWhile_append]
  by_cases h : (t.reverse.dropWhile (· == 32)) = []
  · rw [h]
    simp only [List.isEmpty_nil, if_true, List.reverse_nil]
    by_cases ha : a = 32
    · simp [List.dropWhile, ha]
    · have hb : (a == 32) = false := by simpa using ha
      simp [List.dropWhile, ha, hb]
  · have h1 : (t.reverse.dropWhile (· == 32)).isEmpty = false := by simpa using h
    have h2 : ¬ (t.reverse.dropWhile (· == 32)).reverse = [] := by simpa using h
    rw [h1, if_neg h2]
    simp
theorem trim_comm (l : List UInt8) : Go.Lib.trimB l 32 = Go.Lib.trimRightB (Go.Lib.trimLeftB l 32) 32 := by
  unfold Go.Lib.trimB
  induction l with
  | nil => rfl
  | cons a t ih =>
    rw [trimR_cons]
    by_cases ha : a = 32
    · subst ha
      have e : Go.Lib.trimLeftB ((32 : UInt8) :: t) 32 = Go.Lib.trimLeftB t 32 := rfl
      rw [e, ← ih]
      by_cases h : Go.Lib.trimRightB t 32 = []
      · rw [if_pos h, if_pos rfl, h]
      · rw [if_neg h]
        rfl
    · have e : ∀ q, Go.Lib.trimLeftB (a :: q) 32 = a :: q := fun q => by
        unfold Go.Lib.trimLeftB
        rw [List.dropWhile_cons, if_neg (by simpa using ha)]
      rw [e, trimR_cons]
      by_cases h : Go.Lib.trimRightB t 32 = []
      · rw [if_pos h, if_neg ha, e]
      · rw [if_neg h, e]
theorem trimL_cons (a : UInt8) (t : List UInt8) : Go.Lib.trimLeftB (a :: t) 32 = if a = 32 then Go.Lib.trimLeftB t 32 else a :: t := by
  unfold Go.Lib.trimLeftB
  rw [List.dropWhile_cons]
  by_cases ha : a = 32
  · rw [if_pos ha, if_pos (by simpa using ha)]
  · rw [if_neg ha, if_neg (by simpa using ha)]
theorem b32 (a : UInt8) : ((a.toNat : Int) = 32) ↔ a = 32 := by
  constructor
  · intro h
    apply UInt8.toNat_inj.1
    have : (32 : UInt8).toNat = 32 := rfl
    omega
  · rintro rfl
    rfl
theorem rp_l2 (x0 : ByteArray) (u : Int) (b : Bool) (r : Int × Bool) : ∀ l : List UInt8, l.length ≤ 2000 → Ev (fun k => spec_ReadPriority.j4 k x0 u b (mkB (Go.Lib.trimLeftB l 32))) r → Ev (fun k => spec_ReadPriority.l2 k x0 u b (mkB l)) r
  | [], _, h => by
    refine evSucc ?_
    simp only [spec_ReadPriority.l2]
    exact evNeg (by rw [mkB_size]; simp) h
  | a :: t, hl, h => by
    refine evSucc ?_
    simp only [spec_ReadPriority.l2]
    have hb : bt (mkB (a :: t)) 0 = a.toNat := mkB_bt (a :: t) 0 (by simp)
    have hz : (mkB (a :: t)).size = t.length + 1 := by rw [mkB_size]; rfl
    have he : (mkB (a :: t)).extract 1 (mkB (a :: t)).size = mkB t := by rw [hz, mkB_ext]; simp
    rw [trimL_cons] at h
    refine evPos (by omega) (evPos (by omega) ?_)
    by_cases ha : a = 32
    · rw [if_pos ha] at h
      refine evPos (by rw [hb]; exact (b32 a).2 ha) (evPos (by omega) ?_)
      rw [he]
      exact rp_l2 x0 u b r t (by simp at hl; omega) h
    · rw [if_neg ha] at h
      exact evNeg (by rw [hb]; exact fun q => ha ((b32 a).1 q)) h
theorem rp_l3 (x0 : ByteArray) (u : Int) (b : Bool) (r : Int × Bool) : ∀ (n : Nat) (l : List UInt8), l.length = n → n ≤ 2000 → Ev (fun k => spec_ReadPriority.j6 k x0 u b (mkB (Go.Lib.trimRightB l 32))) r → Ev (fun k => spec_ReadPriority.l3 k x0 u b (mkB l)) r
  | 0, l, hn, _, h => by
    obtain rfl := List.length_eq_zero_iff.1 hn
    refine evSucc ?_
    simp only [spec_ReadPriority.l3]
    exact evNeg (by rw [mkB_size]; simp) h
  | n + 1, l, hn, hm, h => by
    rcases List.eq_nil_or_concat l with rfl | ⟨t, a, rfl⟩
    · simp at hn
    rw [List.concat_eq_append] at hn h ⊢
    have ht : t.length = n := by simpa using hn
    refine evSucc ?_
    simp only [spec_ReadPriority.l3]
    have hz : (mkB (t ++ [a])).size = n + 1 := by rw [mkB_size]; exact hn
    have e1 : wrap64 (((mkB (t ++ [a])).size : Int) - 1) = (n : Int) := by rw [hz, w64 (by omega) (by omega)]; omega
    have hb : bt (mkB (t ++ [a])) (n : Int) = a.toNat := by
      rw [mkB_bt (t ++ [a]) n (by omega)]
      simp [← ht]
    have he : (mkB (t ++ [a])).extract 0 (n : Int).toNat = mkB t := by rw [mkB_ext]; simp [← ht]
    rw [e1, trimR_concat] at *
    refine evPos (by omega) (evPos (by omega) (evPos (by omega) ?_))
    by_cases ha : a = 32
    · rw [if_pos ha] at h
      refine evPos (by rw [hb]; exact (b32 a).2 ha) (evPos (by omega) ?_)
      rw [he]
      exact rp_l3 x0 u b r n t ht (by omega) h
    · rw [if_neg ha] at h
      exact evNeg (by rw [hb]; exact fun q => ha ((b32 a).1 q)) h
theorem third_is (part : ByteArray) (h : part.size = 3) : third part = bt part 2 := by
  have ht : 2 < part.size := by omega
  have e := bt_at part (2 : Int) (by simpa using ht)
  unfold third
  rw [dif_pos ht, ← e]
  rfl
theorem rp_j6 (x0 : ByteArray) (u : Int) (b : Bool) (r : Int × Bool) (part : ByteArray) (h : Ev (fun k => spec_ReadPriority.l0 k x0 (stepOf (u, b) part).1 (stepOf (u, b) part).2) r) : Ev (fun k => spec_ReadPriority.j6 k x0 u b part) r := by
  refine evSucc ?_
  simp only [spec_ReadPriority.j6]
  have key : ∀ x : Bool, (x = true ↔ part.toList = [105] ∨ part.toList = [105, 61, 63, 49]) → Ev (fun k => spec_ReadPriority.j7 k x0 u b part x) r := by
    intro x hx
    refine evSucc ?_
    simp only [spec_ReadPriority.j7]
    cases x with
    | true =>
      have e : stepOf (u, b) part = (u, true) := if_pos (hx.1 rfl)
      rw [e] at h
      exact evPos rfl h
    | false =>
      have hn : ¬ (part.toList = [105] ∨ part.toList = [105, 61, 63, 49]) := fun q => by simpa using hx.2 q
      refine evNeg (by simp) ?_
      by_cases h2 : part.toList = [105, 61, 63, 48]
      · have e : stepOf (u, b) part = (u, false) := (if_neg hn).trans (if_pos h2)
        rw [e] at h
        exact evPos h2 h
      · refine evNeg h2 ?_
        have e0 : stepOf (u, b) part = if part.size = 3 ∧ (part.extract 0 2).toList = [117, 61] ∧ 48 ≤ third part ∧ third part ≤ 55 then (third part - 48, b) else (u, b) := (if_neg hn).trans (if_neg h2)
        rw [e0] at h
        by_cases h3 : part.size = 3
        · have ht := third_is part h3
          refine evPos (by omega) (evPos (by omega) (evPos (by omega) ?_))
          by_cases h4 : (part.extract 0 2).toList = [117, 61]
          · refine evPos h4 (evPos (by omega) ?_)
            by_cases h5 : bt part 2 ≥ 48
            · refine evPos h5 ?_
              by_cases h6 : bt part 2 ≤ 55
              · rw [if_pos ⟨h3, h4, by omega, by omega⟩, ht] at h
                refine evPos h6 ?_
                have em : (bt part 2 - 48) % 256 = bt part 2 - 48 := by omega
                rw [em]
                exact h
              · rw [if_neg (by rintro ⟨_, _, _, q⟩; omega)] at h
                exact evNeg h6 h
            · rw [if_neg (by rintro ⟨_, _, q, _⟩; omega)] at h
              exact evNeg h5 h
          · rw [if_neg (by rintro ⟨_, q, _⟩; exact h4 q)] at h
            exact evNeg h4 h
        · rw [if_neg (by rintro ⟨q, _⟩; exact h3 q)] at h
          exact evNeg (by omega) h
  by_cases h1 : part.toList = [105]
  · exact evPos h1 (key true ⟨fun _ => .inl h1, fun _ => rfl⟩)
  · refine evNeg h1 (key _ ?_)
    simp [h1]
theorem b44 (a : UInt8) : ((a.toNat : Int) = 44) ↔ a = 44 := by
  constructor
  · intro h
    apply UInt8.toNat_inj.1
    have : (44 : UInt8).toNat = 44 := rfl
    omega
  · rintro rfl
    rfl
theorem rp_l1 (l : List UInt8) (hl : l.length ≤ 2000) (u : Int) (b : Bool) (r : Int × Bool) (n : Nat) (hn : n ≤ l.length) (hno : ∀ k, k < n → l[k]? ≠ some 44) (hat : n < l.length → l[n]? = some 44)
    (h : Ev (fun k => spec_ReadPriority.j2 k (mkB l) u b (n : Int)) r) : ∀ (d i : Nat), i + d = n → Ev (fun k => spec_ReadPriority.l1 k (mkB l) u b (i : Int)) r
  | 0, i, hi => by
    obtain rfl : i = n := by omega
    refine evSucc ?_
    simp only [spec_ReadPriority.l1]
    have hz := mkB_size l
    by_cases hlt : i < l.length
    · have hb := mkB_bt l i hlt
      have ha : l[i] = 44 := by
        have := hat hlt
        rw [List.getElem?_eq_getElem hlt] at this
        exact Option.some.inj this
      exact evPos (by omega) (evPos (by omega) (evPos (by rw [hb]; exact (b44 _).2 ha) h))
    · exact evNeg (by omega) h
  | d + 1, i, hi => by
    refine evSucc ?_
    simp only [spec_ReadPriority.l1]
    have hz := mkB_size l
    have hlt : i < l.length := by omega
    have hb := mkB_bt l i hlt
    have ha : ¬ l[i] = 44 := by
      have := hno i (by omega)
      rw [List.getElem?_eq_getElem hlt] at this
      exact fun q => this (by rw [q])
    refine evPos (by omega) (evPos (by omega) (evNeg (by rw [hb]; exact fun q => ha ((b44 _).1 q)) ?_))
    rw [w64succ i (by omega)]
    exact rp_l1 l hl u b r n hn hno hat h d (i + 1) (by omega)
theorem rp_cut (l : List UInt8) (hl : l.length ≤ 2000) (n : Nat) (hn : n ≤ l.length) (u : Int) (b : Bool) (r : Int × Bool)
    (h : Ev (fun k => spec_ReadPriority.l0 k (mkB (l.drop (n + 1))) (partStep (u, b) (mkB (l.take n))).1 (partStep (u, b) (mkB (l.take n))).2) r) : Ev (fun k => spec_ReadPriority.j2 k (mkB l) u b (n : Int)) r := by
  refine evSucc ?_
  simp only [spec_ReadPriority.j2]
  have hz := mkB_size l
  rw [w64succ n (by omega)]
  have hm : 0 ≤ mn ((n + 1 : Nat) : Int) ((mkB l).size : Int) ∧ mn ((n + 1 : Nat) : Int) ((mkB l).size : Int) ≤ (mkB l).size ∧ l.drop (mn ((n + 1 : Nat) : Int) ((mkB l).size : Int)).toNat = l.drop (n + 1) := by
    rw [hz]
    unfold mn
    split
    · refine ⟨by omega, by omega, ?_⟩
      rw [Int.toNat_natCast, List.drop_of_length_le (Nat.le_refl _), List.drop_of_length_le (by omega)]
    · exact ⟨by omega, by omega, rfl⟩
  obtain ⟨h1, h2, h3⟩ := hm
  refine evPos (by omega) (evPos (by omega) (evPos h1 (evPos h2 ?_)))
  have e1 : (mkB l).extract (mn ((n + 1 : Nat) : Int) ((mkB l).size : Int)).toNat (mkB l).size = mkB (l.drop (n + 1)) := by
    rw [mkB_ext, hz, List.take_of_length_le (Nat.le_refl _), ← h3, hz]
  have e2 : (mkB l).extract 0 ((n : Int)).toNat = mkB (l.take n) := by rw [mkB_ext]; simp
  rw [e1, e2]
  refine rp_l2 _ u b r (l.take n) (by simp; omega) (evSucc ?_)
  simp only [spec_ReadPriority.j4]
  refine rp_l3 _ u b r _ _ rfl ?_ ?_
  · have : (Go.Lib.trimLeftB (l.take n) 32).length ≤ (l.take n).length := (List.dropWhile_sublist _).length_le
    simp at this
    omega
  · rw [← trim_comm]
    refine rp_j6 _ u b r _ ?_
    have e3 : partStep (u, b) (mkB (l.take n)) = stepOf (u, b) (mkB (Go.Lib.trimB (l.take n) 32)) := by
      unfold partStep
      rw [mkB_list]
      rfl
    rw [← e3]
    exact h
theorem rp_empty (p : Int × Bool) : partStep p (mkB []) = p := by
  have e : partStep p (mkB []) = stepOf p (mkB []) := rfl
  rw [e]
  have hl : (mkB []).toList = [] := by rw [Go.Lib.toList_data]; rfl
  unfold stepOf
  rw [hl, if_neg (by decide), if_neg (by decide), if_neg (by rintro ⟨q, _⟩; cases q)]
theorem rp_end (u : Int) (b : Bool) : Ev (fun k => spec_ReadPriority.l0 k (mkB []) u b) (u, b) := by
  refine evSucc ?_
  simp only [spec_ReadPriority.l0]
  exact evNeg (by decide) (Ev.now _)
theorem rp_l0 : ∀ (d : Nat) (l : List UInt8) (u : Int) (b : Bool), l.length ≤ d → l.length ≤ 1024 → Ev (fun k => spec_ReadPriority.l0 k (mkB l) u b) ((piecesN 44 d (mkB l)).foldl partStep (u, b))
  | 0, l, u, b, hd, _ => by
    obtain rfl := List.length_eq_zero_iff.1 (Nat.le_zero.1 hd)
    exact evCast (rp_end u b) (rp_empty _).symm
  | d + 1, l, u, b, hd, hl => by
    by_cases h0 : l = []
    · subst h0
      exact evCast (rp_end u b) (rp_empty _).symm
    have hp := List.length_pos_iff.2 h0
    have hz := mkB_size l
    refine evSucc ?_
    simp only [spec_ReadPriority.l0]
    refine evPos (by omega) ?_
    have e : piecesN 44 (d + 1) (mkB l) = if Go.Lib.indexByte l 44 < 0 then [mkB l] else (mkB l).extract 0 (Go.Lib.indexByte l 44).toNat :: piecesN 44 d ((mkB l).extract ((Go.Lib.indexByte l 44).toNat + 1) (mkB l).size) := by
      have e1 : piecesN 44 (d + 1) (mkB l) = if Go.Lib.indexByte (mkB l).data.toList 44 < 0 then [mkB l] else (mkB l).extract 0 (Go.Lib.indexByte (mkB l).data.toList 44).toNat :: piecesN 44 d ((mkB l).extract ((Go.Lib.indexByte (mkB l).data.toList 44).toNat + 1) (mkB l).size) := rfl
      rw [e1, mkB_list]
    rcases idx_range 44 l with hi | ⟨hi0, hi1⟩
    · rw [e, if_pos (by rw [hi]; decide)]
      refine rp_l1 l (by omega) u b _ l.length (Nat.le_refl _) (fun k _ => Go.Lib.indexByte_none hi k) (fun q => by omega) (rp_cut l (by omega) l.length (Nat.le_refl _) u b _ ?_) l.length 0 (by omega)
      rw [List.drop_of_length_le (by omega), List.take_of_length_le (Nat.le_refl _)]
      exact rp_end _ _
    · obtain ⟨n, hn⟩ : ∃ n : Nat, Go.Lib.indexByte l 44 = n := ⟨(Go.Lib.indexByte l 44).toNat, by omega⟩
      rw [hn] at hi1
      obtain ⟨s1, s2⟩ := Go.Lib.indexByte_some hn
      rw [e, hn, if_neg (by omega), Int.toNat_natCast, hz, mkB_ext, mkB_ext, List.take_of_length_le (Nat.le_refl l.length)]
      refine rp_l1 l (by omega) u b _ n (by omega) s2 (fun _ => s1) (rp_cut l (by omega) n (by omega) u b _ ?_) n 0 (by omega)
      exact rp_l0 d (l.drop (n + 1)) _ _ (by simp; omega) (by simp; omega)
theorem readP_spec (s : ByteArray) : Ev (fun k => spec_ReadPriority.f k s) (readP s) := by
  unfold spec_ReadPriority.f readP
  by_cases h1 : 1024 < s.size
  · rw [if_pos h1]
    exact evPos (by omega) (Ev.now _)
  · rw [if_neg h1]
    refine evNeg (by omega) ?_
    have := rp_l0 s.size s.data.toList 3 false (by rw [lenD]; exact Nat.le_refl _) (by rw [lenD]; omega)
    rwa [mkB_of] at this

theorem FnExactReadPriority : laws_FnExactReadPriority.Pure := by
  intro s hs
  refine evEnds ?_
  unfold laws_FnExactReadPriority.f
  refine evSplit (fun _ => Ev.now _) (fun h => ?_)
  exact evBind (readP_spec s) (evPut rfl (evPos rfl (evNeg (by simp) (Ev.now _))))

end Go.Proofs.YtkcimmlaoipdkaaDoor.Pure
