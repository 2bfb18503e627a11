/- Drawn bytes, written to the sending part and pulled in drawn pieces of which some are lost and pulled again, all come to the receiving part, which reads all of it and its end; the sending part is done; no condition. -/
import Derived.Test.YtkmopmoglgcamaaPFnPipex0
import Derived.Test.YtkmopmoglgcamaaPFnPipex1
import Derived.Test.YtkmopmoglgcamaaPFnPipex2
import Derived.Test.YtkmopmoglgcamaaPFnPipex3
import Derived.Test.YtkmopmoglgcamaaPFnPipex4
import Derived.Test.YtkmopmoglgcamaaPFnPipex5
import Derived.Test.YtkmopmoglgcamaaPFnPipex6
import Derived.Test.YtkmopmoglgcamaaPFnPipex7
import Derived.Test.YtkmopmoglgcamaaPFnPipex8
import Derived.Test.YtkmopmoglgcamaaPFnPipex9
import Derived.Test.YtkmopmoglgcamaaPFnPipex10
import Derived.Test.YtkmopmoglgcamaaPFnPipex11
import Derived.Test.YtkmopmoglgcamaaPFnPipex12
import Derived.Test.YtkmopmoglgcamaaPFnPipex13
import Derived.Laws.BitsLemmas
import Derived.Laws.BitsAllLaws
set_option linter.unusedVariables false
set_option linter.unusedSimpArgs false
set_option maxRecDepth 4000
namespace Go.Proofs.Ytkmopmoglgcamaa.Pure
open Go.RowKit Go.Proofs.Ytkmopmoglgcamaa.PFnPipe Go.Proofs.YtkmopmoglgcamaaW.PrintWords Go.Proofs.YtkmopmoglgcamaaW.PrintLast Go.Proofs.YtkmopmoglgcamaaW.PrintMore

/-! ### tools: what a printed function comes to -/
theorem evSucc {α : Type} {g : Nat → Option α} {r : α} (h : Ev (fun k => g (k + 1)) r) : Ev g r := Ev.step (fun _ => rfl) h
theorem evPos {α : Type} {c : Prop} {dc : Decidable c} {a b : Nat → Option α} {r : α} (h : c) (e : Ev a r) : Ev (fun k => if c then a k else b k) r :=
  Ev.congr (fun _ => if_pos h) e
theorem evNeg {α : Type} {c : Prop} {dc : Decidable c} {a b : Nat → Option α} {r : α} (h : ¬ c) (e : Ev b r) : Ev (fun k => if c then a k else b k) r :=
  Ev.congr (fun _ => if_neg h) e
theorem evSplit {α : Type} {c : Prop} {dc : Decidable c} {a b : Nat → Option α} {r : α} (h : c → Ev a r) (h' : ¬ c → Ev b r) : Ev (fun k => if c then a k else b k) r := by
  by_cases hc : c
  · exact evPos hc (h hc)
  · exact evNeg hc (h' hc)
theorem evBind {α β : Type} {g : Nat → Option α} {f : Nat → α → Option β} {a : α} {r : β} (h : Ev g a) (k : Ev (fun n => f n a) r) : Ev (fun n => (g n).bind (f n)) r := Ev.bind h k
theorem evPut {α β : Type} {o : Option α} {f : Nat → α → Option β} {a : α} {r : β} (h : o = some a) (k : Ev (fun n => f n a) r) : Ev (fun n => o.bind (f n)) r :=
  Ev.congr (fun _ => by rw [h]; rfl) k
theorem evNow {α : Type} {r r' : α} (h : r = r') : Ev (fun _ => some r) r' := h ▸ Ev.now r
theorem evOf {α : Type} {o : Option α} {r : α} (h : o = some r) : Ev (fun _ => o) r := ⟨0, fun _ _ => h⟩
theorem evEnds {α : Type} {g : Nat → Option α} {r : α} (h : Ev g r) : ∃ k, g k = some r := Ev.rounds h
theorem w64 {x : Int} (h : -9223372036854775808 ≤ x) (h' : x ≤ 9223372036854775807) : wrap64 x = x := by unfold wrap64; omega
theorem w64succ (i : Nat) (h : i < 4611686018427387904) : wrap64 ((i : Int) + 1) = ((i + 1 : Nat) : Int) := by unfold wrap64; omega
theorem wfI {x : Int} (h : (Lit.int .i64 x).wf = true) : -9223372036854775808 ≤ x ∧ x ≤ 9223372036854775807 := by
  simp only [Lit.wf, IntKind.min, IntKind.max, IntKind.bits, IntKind.signed, Bool.and_eq_true, decide_eq_true_eq] at h
  simpa using h
theorem wfB {x : Int} (h : (Lit.int .u8 x).wf = true) : 0 ≤ x ∧ x ≤ 255 := by
  simp only [Lit.wf, IntKind.min, IntKind.max, IntKind.bits, IntKind.signed, Bool.and_eq_true, decide_eq_true_eq] at h
  simpa using h
theorem rdN (l : List Int) (i : Nat) (h : i < l.length) : rd l (i : Int) = l[i] := by simp [rd, List.getD_eq_getElem?_getD, h]
theorem fillStep {α : Type} (l : List α) (z : α) (i d : Nat) (h : i + (d + 1) = l.length) : (l.take i ++ List.replicate (d + 1) z).set i (l[i]'(by omega)) = l.take (i + 1) ++ List.replicate d z := by
  rw [List.set_append_right _ _ (by simp; omega), List.take_succ_eq_append_getElem (show i < l.length by omega), List.append_assoc]
  congr 1
  have e : i - (l.take i).length = 0 := by simp; omega
  rw [e]
  rfl
theorem evCast {α : Type} {g : Nat → Option α} {r r' : α} (h : Ev g r') (e : r' = r) : Ev g r := e ▸ h

/-! ### the receiving part, in plain Lean -/
open Go.Proofs.Ytkmopmoglgcamaa.MapF (upd upd_same upd_other)
def cnt (f : Int → Option Int) : Nat → Nat
  | 0 => 0
  | p + 1 => cnt f p + (if (f (p : Int)).isSome = true then 1 else 0)
theorem cnt_congr {f g : Int → Option Int} : ∀ (t : Nat), (∀ p : Nat, p < t → (f (p : Int)).isSome = (g (p : Int)).isSome) → cnt f t = cnt g t
  | 0, _ => rfl
  | p + 1, h => by
    simp only [cnt]
    rw [cnt_congr p (fun q hq => h q (by omega)), h p (by omega)]
theorem cnt_put {f : Int → Option Int} {q : Nat} {x : Int} : ∀ (t : Nat), q < t → (f (q : Int)).isSome = false → cnt (upd f (q : Int) (some x)) t = cnt f t + 1
  | 0, h, _ => absurd h (by omega)
  | p + 1, h, hf => by
    simp only [cnt]
    by_cases e : q = p
    · subst e
      rw [upd_same, cnt_congr (f := upd f (q : Int) (some x)) (g := f) q (fun r hr => by rw [upd_other _ _ (by omega)]), hf]
      simp
    · rw [cnt_put p (by omega) hf, upd_other _ _ (by omega)]
      omega
theorem cnt_drop {f : Int → Option Int} {q : Nat} : ∀ (t : Nat), q < t → (f (q : Int)).isSome = true → cnt (upd f (q : Int) none) t + 1 = cnt f t
  | 0, h, _ => absurd h (by omega)
  | p + 1, h, hf => by
    simp only [cnt]
    by_cases e : q = p
    · subst e
      rw [upd_same, cnt_congr (f := upd f (q : Int) none) (g := f) q (fun r hr => by rw [upd_other _ _ (by omega)]), hf]
      simp
    · have := cnt_drop p (by omega) hf
      rw [upd_other _ _ (by omega)]
      omega
theorem cnt_none {f : Int → Option Int} : ∀ (t : Nat), (∀ p : Nat, p < t → (f (p : Int)).isSome = false) → cnt f t = 0
  | 0, _ => rfl
  | p + 1, h => by
    simp only [cnt]
    rw [cnt_none p (fun q hq => h q (by omega)), h p (by omega)]
    simp
theorem cnt_all {f : Int → Option Int} {rd : Nat} : ∀ (t : Nat), rd ≤ t → (∀ p : Nat, p < rd → (f (p : Int)).isSome = false) → rd + cnt f t ≤ t ∧ (rd + cnt f t = t ↔ ∀ p : Nat, rd ≤ p → p < t → (f (p : Int)).isSome = true)
  | 0, h, _ => ⟨by simp only [cnt]; omega, fun _ p _ hp => absurd hp (by omega), fun _ => by simp only [cnt]; omega⟩
  | t + 1, h, h0 => by
    by_cases e : rd = t + 1
    · have hn : cnt f (t + 1) = 0 := cnt_none _ (fun p hp => h0 p (by omega))
      rw [hn]
      exact ⟨by omega, fun _ p h1 h2 => absurd h2 (by omega), fun _ => by omega⟩
    · obtain ⟨i1, i2⟩ := cnt_all t (by omega) h0
      simp only [cnt]
      by_cases hs : (f (t : Int)).isSome = true
      · rw [if_pos hs]
        refine ⟨by omega, fun hh p h1 h2 => ?_, fun hh => ?_⟩
        · by_cases ep : p = t
          · rw [ep]; exact hs
          · exact i2.1 (by omega) p h1 (by omega)
        · have := i2.2 (fun p h1 h2 => hh p h1 (by omega))
          omega
      · rw [if_neg hs]
        refine ⟨by omega, fun hh => absurd hh (by omega), fun hh => absurd (hh t (by omega) (by omega)) hs⟩
theorem puts_is (T : List Int) (f : Int → Option Int) (c rd o m : Nat) (hc : c = cnt f T.length) (hom : o + m ≤ T.length) : ∀ i, i ≤ m →
    (∀ y : Int, (impl_rc.puts f c (rd : Int) (o : Int) ((T.drop o).take m) i).1 y = if (f y).isSome = true then f y else if (o : Int) ≤ y ∧ y < (o : Int) + (i : Int) ∧ (rd : Int) ≤ y then some (T.getD y.toNat 0) else none) ∧
      (impl_rc.puts f c (rd : Int) (o : Int) ((T.drop o).take m) i).2 = cnt (impl_rc.puts f c (rd : Int) (o : Int) ((T.drop o).take m) i).1 T.length
  | 0, _ => ⟨fun y => by
      simp only [impl_rc.puts]
      by_cases h : (f y).isSome = true
      · rw [if_pos h]
      · rw [if_neg h, if_neg (by omega)]
        cases hf : f y with
        | none => rfl
        | some x => rw [hf] at h; exact absurd rfl h, hc⟩
  | i + 1, hi => by
    obtain ⟨h1, h2⟩ := puts_is T f c rd o m hc hom i (by omega)
    have hg : ((T.drop o).take m).getD i 0 = T.getD (o + i) 0 := by
      rw [List.getD_eq_getElem?_getD, List.getD_eq_getElem?_getD, List.getElem?_take, if_pos (by omega), List.getElem?_drop]
    have hy := h1 ((o : Int) + (i : Int))
    simp only [impl_rc.puts]
    rw [hg]
    generalize hP : impl_rc.puts f c (rd : Int) (o : Int) ((T.drop o).take m) i = P at h1 h2 hy ⊢
    have e0 : ((o : Int) + (i : Int)) = ((o + i : Nat) : Int) := by omega
    by_cases hs : (f ((o : Int) + (i : Int))).isSome = true
    · rw [if_pos hs] at hy
      rw [if_neg (by rw [hy, hs]; simp)]
      refine ⟨fun y => ?_, h2⟩
      rw [h1 y]
      by_cases hy2 : (f y).isSome = true
      · rw [if_pos hy2, if_pos hy2]
      · rw [if_neg hy2, if_neg hy2]
        have : y ≠ (o : Int) + (i : Int) := fun e => hy2 (e ▸ hs)
        by_cases hr : (o : Int) ≤ y ∧ y < (o : Int) + (i : Int) ∧ (rd : Int) ≤ y
        · rw [if_pos hr, if_pos (by omega)]
        · rw [if_neg hr, if_neg (by omega)]
    · rw [if_neg hs, if_neg (by omega)] at hy
      by_cases hr : (rd : Int) ≤ (o : Int) + (i : Int)
      · rw [if_pos ⟨by rw [hy]; rfl, hr⟩]
        refine ⟨fun y => ?_, ?_⟩
        · dsimp only
          by_cases e : y = (o : Int) + (i : Int)
          · subst e
            rw [upd_same, if_neg hs, if_pos (by omega), show ((o : Int) + (i : Int)).toNat = o + i by omega]
          · rw [upd_other _ _ e, h1 y]
            by_cases hy2 : (f y).isSome = true
            · rw [if_pos hy2, if_pos hy2]
            · rw [if_neg hy2, if_neg hy2]
              by_cases hr2 : (o : Int) ≤ y ∧ y < (o : Int) + (i : Int) ∧ (rd : Int) ≤ y
              · rw [if_pos hr2, if_pos (by omega)]
              · rw [if_neg hr2, if_neg (by omega)]
        · rw [e0] at hy ⊢
          rw [cnt_put T.length (by omega) (by rw [hy]; rfl), h2]
      · rw [if_neg (fun hh => hr hh.2)]
        refine ⟨fun y => ?_, h2⟩
        rw [h1 y]
        by_cases hy2 : (f y).isSome = true
        · rw [if_pos hy2, if_pos hy2]
        · rw [if_neg hy2, if_neg hy2]
          by_cases hr2 : (o : Int) ≤ y ∧ y < (o : Int) + (i : Int) ∧ (rd : Int) ≤ y
          · rw [if_pos hr2, if_pos (by omega)]
          · rw [if_neg hr2, if_neg (by omega)]
theorem dels_is (t : Nat) (ht : t ≤ 1000000) (f : Int → Option Int) (c rd m : Nat) (hc : c = cnt f t) (hm : rd + m ≤ t) (hs : ∀ j : Nat, j < m → (f ((rd + j : Nat) : Int)).isSome = true) : ∀ i, i ≤ m →
    (∀ y : Int, (impl_rc.dels f c (rd : Int) i).1 y = if (rd : Int) ≤ y ∧ y < (rd : Int) + (i : Int) then none else f y) ∧ (impl_rc.dels f c (rd : Int) i).2 = cnt (impl_rc.dels f c (rd : Int) i).1 t
  | 0, _ => ⟨fun y => by
      simp only [impl_rc.dels]
      rw [if_neg (by omega)], hc⟩
  | i + 1, hi => by
    obtain ⟨h1, h2⟩ := dels_is t ht f c rd m hc hm hs i (by omega)
    simp only [impl_rc.dels]
    generalize hP : impl_rc.dels f c (rd : Int) i = P at h1 h2 ⊢
    have ew : wrap64 ((rd : Int) + (i : Int)) = ((rd + i : Nat) : Int) := by rw [w64 (by omega) (by omega)]; omega
    rw [ew]
    have hy : P.1 ((rd + i : Nat) : Int) = f ((rd + i : Nat) : Int) := by rw [h1, if_neg (by omega)]
    have hsi := hs i (by omega)
    rw [if_pos (by rw [hy]; exact hsi)]
    refine ⟨fun y => ?_, ?_⟩
    · by_cases e : y = ((rd + i : Nat) : Int)
      · subst e
        rw [upd_same, if_pos (by omega)]
      · rw [upd_other _ _ e, h1 y]
        by_cases hr2 : (rd : Int) ≤ y ∧ y < (rd : Int) + (i : Int)
        · rw [if_pos hr2, if_pos (by omega)]
        · rw [if_neg hr2, if_neg (by omega)]
    · have := cnt_drop t (q := rd + i) (f := P.1) (by omega) (by rw [hy]; exact hsi)
      omega
theorem ready_is (T : List Int) (ht : T.length ≤ 1000000) (f : Int → Option Int) (rd : Nat) (hd : ∀ y x, f y = some x → ∃ p : Nat, y = (p : Int) ∧ rd ≤ p ∧ p < T.length ∧ x = T.getD p 0) (nn : Int) (hn : 0 ≤ nn) :
    ∀ (d m : Nat), rd + m + d = T.length → (∀ j : Nat, j < m → (f ((rd + j : Nat) : Int)).isSome = true) → (m : Int) ≤ nn →
      ∃ m2 : Nat, m ≤ m2 ∧ rd + m2 ≤ T.length ∧ (∀ j : Nat, j < m2 → (f ((rd + j : Nat) : Int)).isSome = true) ∧ (m2 : Int) ≤ nn ∧ ((m2 : Int) = nn ∨ f ((rd + m2 : Nat) : Int) = none) ∧ Ev (fun k => impl_rc.ready f (rd : Int) nn k ((T.drop rd).take m)) ((T.drop rd).take m2) := by
  intro d
  induction d with
  | zero =>
    intro m hm hs hmn
    have hl : ((T.drop rd).take m).length = m := by rw [List.length_take, List.length_drop]; omega
    have hf : f ((rd + m : Nat) : Int) = none := by
      cases hf : f ((rd + m : Nat) : Int) with
      | none => rfl
      | some x => obtain ⟨p, h1, h2, h3, _⟩ := hd _ _ hf; omega
    refine ⟨m, Nat.le_refl _, by omega, hs, hmn, .inr hf, evSucc ?_⟩
    simp only [impl_rc.ready]
    rw [hl, w64 (by omega) (by omega), show (rd : Int) + (m : Int) = ((rd + m : Nat) : Int) by omega, hf]
    exact evSplit (fun _ => evPos (by omega) (Ev.now _)) (fun _ => Ev.now _)
  | succ d ih =>
    intro m hm hs hmn
    have hl : ((T.drop rd).take m).length = m := by rw [List.length_take, List.length_drop]; omega
    by_cases hlt : (m : Int) < nn
    · cases hf : f ((rd + m : Nat) : Int) with
      | none =>
        refine ⟨m, Nat.le_refl _, by omega, hs, hmn, .inr hf, evSucc ?_⟩
        simp only [impl_rc.ready]
        rw [hl, w64 (by omega) (by omega), show (rd : Int) + (m : Int) = ((rd + m : Nat) : Int) by omega, hf]
        exact evPos hlt (evPos (by omega) (Ev.now _))
      | some x =>
        obtain ⟨p, h1, h2, h3, h4⟩ := hd _ _ hf
        obtain ⟨m2, g1, g2, g3, g4, g5, g6⟩ := ih (m + 1) (by omega) (fun j hj => by
          by_cases e : j = m
          · rw [e, hf]; rfl
          · exact hs j (by omega)) (by omega)
        have e1 : (T.drop rd).take m ++ [x] = (T.drop rd).take (m + 1) := by
          rw [List.take_add_one, List.getElem?_drop, show T[rd + m]? = some x by rw [h4, show p = rd + m by omega, List.getD_eq_getElem?_getD, List.getElem?_eq_getElem (by omega)]; rfl]
          rfl
        refine ⟨m2, by omega, g2, g3, g4, g5, evSucc ?_⟩
        simp only [impl_rc.ready]
        rw [hl, w64 (by omega) (by omega), show (rd : Int) + (m : Int) = ((rd + m : Nat) : Int) by omega, hf]
        simp only []
        rw [e1]
        exact evPos hlt (evPos (by omega) g6)
    · refine ⟨m, Nat.le_refl _, by omega, hs, hmn, .inl (by omega), evSucc ?_⟩
      simp only [impl_rc.ready]
      rw [hl]
      exact evNeg hlt (Ev.now _)

def allCome (T : List Int) (rd : Nat) (f : Int → Option Int) : Prop := ∀ p : Nat, rd ≤ p → p < T.length → (f (p : Int)).isSome = true
structure RI (T : List Int) (rd : Nat) (v : impl_rc.V) : Prop where
  read : v.read = (rd : Int)
  le : rd ≤ T.length
  dom : ∀ y x, v.f y = some x → ∃ p : Nat, y = (p : Int) ∧ rd ≤ p ∧ p < T.length ∧ x = T.getD p 0
  c : v.c = cnt v.f T.length
  known : v.known = true ↔ (rd = T.length ∨ (v.f ((T.length - 1 : Nat) : Int)).isSome = true)
  fin : v.known = true → v.fin = (T.length : Int)
  told : 16384 ≤ v.told ∧ v.told ≤ 16384 + (T.length : Int)
  win : v.win = 16384
  top : 0 ≤ v.top ∧ v.top ≤ (T.length : Int)
  st : (v.st = 0 ∧ v.known = false) ∨ (v.st = 1 ∧ v.known = true ∧ ¬ allCome T rd v.f) ∨ (v.st = 2 ∧ v.known = true ∧ allCome T rd v.f ∧ rd < T.length) ∨ (v.st = 3 ∧ v.known = true ∧ rd = T.length)
def come (rd : Nat) (v : impl_rc.V) (p : Nat) : Prop := p < rd ∨ (v.f (p : Int)).isSome = true
theorem dom_low {T : List Int} {rd : Nat} {f : Int → Option Int} (hd : ∀ y x, f y = some x → ∃ p : Nat, y = (p : Int) ∧ rd ≤ p ∧ p < T.length ∧ x = T.getD p 0) (p : Nat) (hp : p < rd) : (f (p : Int)).isSome = false := by
  cases hf : f (p : Int) with
  | none => rfl
  | some x => obtain ⟨q, h1, h2, _⟩ := hd _ _ hf; omega
theorem data_step {T : List Int} (h1 : 1 ≤ T.length) (ht : T.length ≤ 1000) {rd : Nat} {v : impl_rc.V} (h : RI T rd v) (o m : Nat) (hm : 1 ≤ m) (hm2 : m ≤ 1500) (hom : o + m ≤ T.length) :
    ∃ v2, impl_rc.data v (o : Int) ((T.drop o).take m) (decide (o + m = T.length)) = (0, v2) ∧ RI T rd v2 ∧ v2.told = v.told ∧ (∀ p, come rd v p → come rd v2 p) ∧ (∀ p, o ≤ p → p < o + m → come rd v2 p) := by
  obtain ⟨st, told, win, read, top, fin, known, f, c⟩ := v
  obtain ⟨r1, r2, r3, r4, r5, r6, r7, r8, r9, r10⟩ := h
  dsimp only at r1 r2 r3 r4 r5 r6 r7 r8 r9 r10
  subst r1 r4
  have r8_ := r8.symm
  clear r8
  subst r8_
  have hl : ((T.drop o).take m).length = m := by rw [List.length_take, List.length_drop]; omega
  have een : (o : Int) + (m : Int) = ((o + m : Nat) : Int) := by omega
  have hbad : impl_rc.bad ⟨st, told, 16384, (rd : Int), top, fin, known, f, cnt f T.length⟩ ((o : Int) + (m : Int)) (decide (o + m = T.length)) = false := by
    unfold impl_rc.bad
    dsimp only
    by_cases hf : o + m = T.length
    · rw [decide_eq_true hf]
      have e1 : decide ((o : Int) + (m : Int) < top) = false := decide_eq_false (by omega)
      rw [e1]
      cases hk : known with
      | false => rfl
      | true =>
        have := r6 hk
        have e2 : decide (fin < (o : Int) + (m : Int)) = false := decide_eq_false (by omega)
        have e3 : ((o : Int) + (m : Int) != fin) = false := by
          have : (o : Int) + (m : Int) = fin := by omega
          rw [this]; simp
        rw [e2, e3]; rfl
    · rw [decide_eq_false hf]
      cases hk : known with
      | false => rfl
      | true =>
        have := r6 hk
        have e2 : decide (fin < (o : Int) + (m : Int)) = false := decide_eq_false (by omega)
        rw [e2]; rfl
  unfold impl_rc.data
  rw [hl, if_neg (by omega), if_neg (by omega), if_neg (by omega), if_neg (by dsimp only; omega), hbad, if_neg (by simp)]
  dsimp only
  by_cases hst : st = 0 ∨ st = 1
  · rw [if_pos hst]
    have hlt : rd < T.length := by
      rcases r10 with ⟨e, k⟩ | ⟨e, k, na⟩ | ⟨e, _⟩ | ⟨e, _⟩
      · by_cases hh : rd = T.length
        · rw [r5.2 (.inl hh)] at k; exact absurd k (by simp)
        · omega
      · by_cases hh : rd = T.length
        · exact absurd (fun p h1 h2 => absurd h2 (by omega)) na
        · omega
      · omega
      · omega
    obtain ⟨g1, g2⟩ := puts_is T f (cnt f T.length) rd o m rfl hom m (Nat.le_refl _)
    unfold impl_rc.kept
    dsimp only
    rw [hl]
    generalize impl_rc.puts f (cnt f T.length) (rd : Int) (o : Int) ((T.drop o).take m) m = P at g1 g2 ⊢
    obtain ⟨g, c2⟩ := P
    dsimp only at g1 g2 ⊢
    subst g2
    have gs : ∀ p : Nat, (g (p : Int)).isSome = true ↔ ((f (p : Int)).isSome = true ∨ (o ≤ p ∧ p < o + m ∧ rd ≤ p)) := fun p => by
      rw [g1]
      by_cases hs : (f (p : Int)).isSome = true
      · rw [if_pos hs]; simp [hs]
      · rw [if_neg hs]
        by_cases hr : (o : Int) ≤ (p : Int) ∧ (p : Int) < (o : Int) + (m : Int) ∧ (rd : Int) ≤ (p : Int)
        · rw [if_pos hr]
          exact ⟨fun _ => .inr ⟨by omega, by omega, by omega⟩, fun _ => rfl⟩
        · rw [if_neg hr]
          exact ⟨fun hh => absurd hh (by simp), fun hh => hh.elim (fun hh => absurd hh hs) (fun hh => absurd hh (by omega))⟩
    have gd : ∀ y x, g y = some x → ∃ p : Nat, y = (p : Int) ∧ rd ≤ p ∧ p < T.length ∧ x = T.getD p 0 := fun y x hy => by
      rw [g1] at hy
      by_cases hs : (f y).isSome = true
      · rw [if_pos hs] at hy; exact r3 y x hy
      · rw [if_neg hs] at hy
        by_cases hr : (o : Int) ≤ y ∧ y < (o : Int) + (m : Int) ∧ (rd : Int) ≤ y
        · rw [if_pos hr] at hy
          exact ⟨y.toNat, by omega, by omega, by omega, (Option.some.inj hy).symm⟩
        · rw [if_neg hr] at hy; exact absurd hy (by simp)
    obtain ⟨a1, a2⟩ := cnt_all (f := g) T.length r2 (fun p hp => dom_low gd p hp)
    rw [w64 (by omega) (by omega)]
    have cm : ∀ p, p < rd ∨ (f (p : Int)).isSome = true → p < rd ∨ (g (p : Int)).isSome = true := fun p hp => hp.imp id (fun hs => (gs p).2 (.inl hs))
    have cn : ∀ p, o ≤ p → p < o + m → p < rd ∨ (g (p : Int)).isSome = true := fun p hp1 hp2 => by
      by_cases hp : p < rd
      · exact .inl hp
      · exact .inr ((gs p).2 (.inr ⟨hp1, hp2, by omega⟩))
    by_cases hf : o + m = T.length
    · rw [decide_eq_true hf, if_pos rfl]
      have hk : (g ((T.length - 1 : Nat) : Int)).isSome = true := (gs _).2 (.inr ⟨by omega, by omega, by omega⟩)
      by_cases ha : (rd : Int) + (cnt g T.length : Int) = (o : Int) + (m : Int)
      · rw [if_pos ha]
        exact ⟨_, rfl, ⟨rfl, r2, gd, rfl, ⟨fun _ => .inr hk, fun _ => rfl⟩, fun _ => by dsimp only; omega, r7, rfl, ⟨by dsimp only; omega, by dsimp only; omega⟩, .inr (.inr (.inl ⟨rfl, rfl, a2.1 (by omega), hlt⟩))⟩, rfl, cm, cn⟩
      · rw [if_neg ha]
        exact ⟨_, rfl, ⟨rfl, r2, gd, rfl, ⟨fun _ => .inr hk, fun _ => rfl⟩, fun _ => by dsimp only; omega, r7, rfl, ⟨by dsimp only; omega, by dsimp only; omega⟩, .inr (.inl ⟨rfl, rfl, fun hh => ha (by have := a2.2 hh; omega)⟩)⟩, rfl, cm, cn⟩
    · rw [decide_eq_false hf, if_neg (by simp)]
      have hk : known = true ↔ (rd = T.length ∨ (g ((T.length - 1 : Nat) : Int)).isSome = true) := by
        rw [r5, gs]
        constructor
        · rintro (hh | hh)
          · exact .inl hh
          · exact .inr (.inl hh)
        · rintro (hh | hh | hh)
          · exact .inl hh
          · exact .inr hh
          · omega
      by_cases ha : known = true ∧ (rd : Int) + (cnt g T.length : Int) = fin
      · rw [if_pos ha]
        have := r6 ha.1
        exact ⟨_, rfl, ⟨rfl, r2, gd, rfl, hk, r6, r7, rfl, ⟨by dsimp only; omega, by dsimp only; omega⟩, .inr (.inr (.inl ⟨rfl, ha.1, a2.1 (by omega), hlt⟩))⟩, rfl, cm, cn⟩
      · rw [if_neg ha]
        refine ⟨_, rfl, ⟨rfl, r2, gd, rfl, hk, r6, r7, rfl, ⟨by dsimp only; omega, by dsimp only; omega⟩, ?_⟩, rfl, cm, cn⟩
        rcases r10 with ⟨e, k⟩ | ⟨e, k, na⟩ | ⟨e, _⟩ | ⟨e, _⟩
        · exact .inl ⟨e, k⟩
        · exact .inr (.inl ⟨e, k, fun hh => ha ⟨k, by have := a2.2 hh; have := r6 k; omega⟩⟩)
        · omega
        · omega
  · rw [if_neg hst]
    refine ⟨_, rfl, ⟨rfl, r2, r3, rfl, r5, r6, r7, rfl, ⟨by dsimp only; omega, by dsimp only; omega⟩, r10⟩, rfl, fun p hp => hp, fun p hp1 hp2 => ?_⟩
    rcases r10 with ⟨e, k⟩ | ⟨e, k, na⟩ | ⟨e, k, al, hlt⟩ | ⟨e, k, he⟩
    · exact absurd (.inl e) hst
    · exact absurd (.inr e) hst
    · by_cases hp : p < rd
      · exact .inl hp
      · exact .inr (al p (by omega) (by omega))
    · exact .inl (by omega)
theorem credit_is (r told : Int) (h0 : 0 ≤ r) (h1 : r ≤ 1000) (h2 : 16384 ≤ told) (h3 : told ≤ 16384 + 1000) : ∃ t, Ev (fun k => impl_CreditNext.f k r 16384 told) t ∧ told ≤ t ∧ (t = told ∨ t = r + 16384) := by
  unfold impl_CreditNext.f
  have e3 : wrap64 (Int.tdiv (wrap64 (16384 + 1)) 2) = (16384 + 1) / 2 := by rw [w64 (x := 16384 + 1) (by omega) (by omega), Int.tdiv_eq_ediv_of_nonneg (by omega), w64 (by omega) (by omega)]
  by_cases hc : (16384 + 1) / 2 ≤ r + 16384 - told
  · refine ⟨r + 16384, evNeg (by omega) (evNeg (by omega) (evNeg (by omega) (evNeg (by omega) (evNeg (by omega) (evSucc ?_))))), by omega, .inr rfl⟩
    simp only [impl_CreditNext.j0]
    rw [w64 (x := r + 16384) (by omega) (by omega), w64 (x := r + 16384 - told) (by omega) (by omega), e3]
    exact evNeg (by rw [decide_eq_false (by omega)]; simp) (evPos hc (Ev.now _))
  · refine ⟨told, evNeg (by omega) (evNeg (by omega) (evNeg (by omega) (evNeg (by omega) (evNeg (by omega) (evSucc ?_))))), Int.le_refl _, .inl rfl⟩
    simp only [impl_CreditNext.j0]
    rw [w64 (x := r + 16384) (by omega) (by omega), w64 (x := r + 16384 - told) (by omega) (by omega), e3]
    exact evNeg (by rw [decide_eq_false (by omega)]; simp) (evNeg hc (Ev.now _))
theorem take_step {T : List Int} (h1 : 1 ≤ T.length) (ht : T.length ≤ 1000) {rd : Nat} {v : impl_rc.V} (h : RI T rd v) (nn : Int) (hn : 1 ≤ nn) :
    ∃ m en v2, Ev (fun k => impl_rc.take k v nn) (((T.drop rd).take m, en, 0), v2) ∧ rd + m ≤ T.length ∧ RI T (rd + m) v2 ∧ v.told ≤ v2.told ∧ (∀ p, come rd v p → come (rd + m) v2 p) ∧ (en = true → rd + m = T.length) ∧
      ((∀ p, p < T.length → come rd v p) → 100000 ≤ nn → en = true ∧ v2.st = 3 ∧ rd + m = T.length) := by
  obtain ⟨st, told, win, read, top, fin, known, f, c⟩ := v
  obtain ⟨r1, r2, r3, r4, r5, r6, r7, r8, r9, r10⟩ := h
  dsimp only at r1 r2 r3 r4 r5 r6 r7 r8 r9 r10
  subst r1 r4
  have r8_ := r8.symm
  clear r8
  subst r8_
  obtain ⟨m, _, b1, b2, b3, b4, b5⟩ := ready_is T (by omega) f rd r3 nn (by omega) (T.length - rd) 0 (by omega) (fun j hj => absurd hj (by omega)) (by omega)
  have hl : ((T.drop rd).take m).length = m := by rw [List.length_take, List.length_drop]; omega
  obtain ⟨d1, d2⟩ := dels_is T.length (by omega) f (cnt f T.length) rd m rfl b1 b2 m (Nat.le_refl _)
  have hrd : wrap64 ((rd : Int) + (((T.drop rd).take m).length : Int)) = ((rd + m : Nat) : Int) := by rw [hl, w64 (by omega) (by omega)]; omega
  have core : ∀ st2 told2, ((st2 = 0 ∧ known = false) ∨ (st2 = 1 ∧ known = true ∧ ¬ allCome T rd f) ∨ (st2 = 2 ∧ known = true ∧ allCome T rd f ∧ rd + m < T.length) ∨ (st2 = 3 ∧ known = true ∧ rd + m = T.length)) → 16384 ≤ told2 ∧ told2 ≤ 16384 + (T.length : Int) →
      RI T (rd + m) ⟨st2, told2, 16384, ((rd + m : Nat) : Int), top, fin, known, (impl_rc.dels f (cnt f T.length) (rd : Int) ((T.drop rd).take m).length).1, (impl_rc.dels f (cnt f T.length) (rd : Int) ((T.drop rd).take m).length).2⟩ ∧
        (∀ p, come rd ⟨st, told, 16384, (rd : Int), top, fin, known, f, cnt f T.length⟩ p → come (rd + m) ⟨st2, told2, 16384, ((rd + m : Nat) : Int), top, fin, known, (impl_rc.dels f (cnt f T.length) (rd : Int) ((T.drop rd).take m).length).1, (impl_rc.dels f (cnt f T.length) (rd : Int) ((T.drop rd).take m).length).2⟩ p) := by
    intro st2 told2 hs2 ht2
    rw [hl]
    generalize impl_rc.dels f (cnt f T.length) (rd : Int) m = P at d1 d2 ⊢
    obtain ⟨g, c2⟩ := P
    dsimp only at d1 d2 ⊢
    subst d2
    have gh : ∀ p : Nat, rd + m ≤ p → g (p : Int) = f (p : Int) := fun p hp => by rw [d1, if_neg (by omega)]
    have ga : allCome T (rd + m) g ↔ allCome T rd f := by
      constructor
      · intro hh p hp1 hp2
        by_cases hp : p < rd + m
        · have := b2 (p - rd) (by omega)
          rwa [show rd + (p - rd) = p by omega] at this
        · rw [← gh p (by omega)]; exact hh p (by omega) hp2
      · intro hh p hp1 hp2
        rw [gh p hp1]; exact hh p (by omega) hp2
    refine ⟨⟨rfl, b1, fun y x hy => ?_, rfl, ?_, r6, ht2, rfl, r9, ?_⟩, fun p hp => ?_⟩
    · dsimp only at hy
      rw [d1] at hy
      by_cases hr : (rd : Int) ≤ y ∧ y < (rd : Int) + (m : Int)
      · rw [if_pos hr] at hy; exact absurd hy (by simp)
      · rw [if_neg hr] at hy
        obtain ⟨p, q1, q2, q3, q4⟩ := r3 y x hy
        exact ⟨p, q1, by omega, q3, q4⟩
    · dsimp only
      rw [r5]
      by_cases hx : T.length - 1 < rd + m
      · by_cases hx2 : T.length - 1 < rd
        · exact ⟨fun _ => .inl (by omega), fun _ => .inl (by omega)⟩
        · have := b2 (T.length - 1 - rd) (by omega)
          rw [show rd + (T.length - 1 - rd) = T.length - 1 by omega] at this
          exact ⟨fun _ => .inl (by omega), fun _ => .inr this⟩
      · rw [gh _ (by omega)]
        exact ⟨fun hh => hh.imp (fun e => by omega) id, fun hh => hh.imp (fun e => by omega) id⟩
    · dsimp only
      rw [ga]
      exact hs2
    · rcases hp with hp | hp
      · exact .inl (by omega)
      · by_cases hpm : p < rd + m
        · exact .inl hpm
        · exact .inr (by dsimp only at hp ⊢; rw [gh p (by omega)]; exact hp)
  have hall : (∀ p, p < T.length → come rd ⟨st, told, 16384, (rd : Int), top, fin, known, f, cnt f T.length⟩ p) → 100000 ≤ nn → rd + m = T.length ∧ known = true ∧ allCome T rd f := fun hc hn2 => by
    clear core r7 r10 r6 r9
    have hac : allCome T rd f := fun p hp1 hp2 => by
      rcases hc p hp2 with hh | hh
      · omega
      · exact hh
    have e : rd + m = T.length := by
      by_cases e : rd + m = T.length
      · exact e
      · rcases b4 with hh | hh
        · omega
        · have := hac (rd + m) (by omega) (by omega)
          rw [hh] at this
          exact absurd this (by simp)
    refine ⟨e, r5.2 ?_, hac⟩
    rcases hc (T.length - 1) (by omega) with hh | hh
    · exact .inl (by omega)
    · exact .inr hh
  have n4 : ¬ st = 4 := by rcases r10 with ⟨e, _⟩ | ⟨e, _⟩ | ⟨e, _⟩ | ⟨e, _⟩ <;> omega
  have n5 : ¬ st = 5 := by rcases r10 with ⟨e, _⟩ | ⟨e, _⟩ | ⟨e, _⟩ | ⟨e, _⟩ <;> omega
  unfold impl_rc.take
  dsimp only
  by_cases s2 : st = 2 ∧ ((rd + m : Nat) : Int) = fin
  · have hk : known = true := by rcases r10 with ⟨e, _⟩ | ⟨e, _⟩ | ⟨e, k, _⟩ | ⟨e, _⟩ <;> first | exact k | omega
    have e : rd + m = T.length := by have := r6 hk; omega
    obtain ⟨c1, c2⟩ := core 3 told (.inr (.inr (.inr ⟨rfl, hk, e⟩))) r7
    refine ⟨m, true, _, evNeg (by omega) (evNeg n4 (evNeg n5 (evBind b5 (evPos (by rw [hl]; omega) (evPos (by rw [hrd]; exact s2) (by rw [hrd]; exact Ev.now _)))))), b1, c1, Int.le_refl _, c2, fun _ => e, fun _ _ => ⟨rfl, rfl, e⟩⟩
  · by_cases s0 : st = 0
    · have hk : known = false := by rcases r10 with ⟨e, k⟩ | ⟨e, _⟩ | ⟨e, k, _⟩ | ⟨e, _⟩ <;> first | exact k | omega
      obtain ⟨t2, hcr, tb1, tb2⟩ := credit_is ((rd + m : Nat) : Int) told (by omega) (by omega) r7.1 (by omega)
      have tb : told ≤ t2 ∧ 16384 ≤ t2 ∧ t2 ≤ 16384 + (T.length : Int) := by omega
      obtain ⟨c1, c2⟩ := core 0 t2 (.inl ⟨rfl, hk⟩) tb.2
      subst s0
      refine ⟨m, false, _, evNeg (by omega) (evNeg n4 (evNeg n5 (evBind b5 (evPos (by rw [hl]; omega) (evNeg (by rw [hrd]; exact s2) (evPos rfl (by rw [hrd]; exact evBind hcr (Ev.now _)))))))), b1, c1, tb.1, c2, fun hh => absurd hh (by simp), fun ha hn2 => ?_⟩
      have := (hall ha hn2).2.1
      rw [hk] at this
      exact absurd this (by simp)
    · obtain ⟨c1, c2⟩ := core st told (by
        rcases r10 with hh | hh | ⟨e, k, al, hlt⟩ | ⟨e, k, he⟩
        · exact .inl hh
        · exact .inr (.inl hh)
        · exact .inr (.inr (.inl ⟨e, k, al, by have := r6 k; omega⟩))
        · exact .inr (.inr (.inr ⟨e, k, by omega⟩))) r7
      refine ⟨m, decide (st = 3), _, evNeg (by omega) (evNeg n4 (evNeg n5 (evBind b5 (evPos (by rw [hl]; omega) (evNeg (by rw [hrd]; exact s2) (evNeg s0 (by rw [hrd]; exact Ev.now _))))))), b1, c1, Int.le_refl _, c2, fun hh => ?_, fun ha hn2 => ?_⟩
      · have e3 := of_decide_eq_true hh
        rcases r10 with ⟨e, _⟩ | ⟨e, _⟩ | ⟨e, _⟩ | ⟨e, _, he⟩ <;> omega
      · obtain ⟨e, hk, hac⟩ := hall ha hn2
        have e3 : st = 3 := by
          rcases r10 with ⟨e1, _⟩ | ⟨_, _, na⟩ | ⟨e1, _⟩ | ⟨e1, _⟩
          · omega
          · exact absurd hac na
          · exact absurd ⟨e1, by have := r6 hk; omega⟩ s2
          · exact e1
        exact ⟨decide_eq_true e3, e3, e⟩

/-! #### all that was cut comes to the receiving part -/
def FineD (T : List Int) (op : S34) : Prop := op.f0 = 1 ∧ ∃ o m : Nat, op.f1 = (o : Int) ∧ 1 ≤ m ∧ m ≤ 1500 ∧ o + m ≤ T.length ∧ op.f3 = (T.drop o).take m ∧ op.f4 = decide (o + m = T.length)
def coversD (op : S34) (p : Nat) : Prop := op.f0 = 1 ∧ op.f1 ≤ (p : Int) ∧ (p : Int) < op.f1 + (op.f3.length : Int)
theorem recvData {T : List Int} (h1 : 1 ≤ T.length) (ht : T.length ≤ 1000) : ∀ (ops : List (S34)), (∀ op ∈ ops, FineD T op) → ∀ (v : impl_rc.V), RI T 0 v → (∀ p, p < T.length → come 0 v p ∨ ∃ op ∈ ops, coversD op p) →
    ∀ (acc : List (S39)), ∃ out la, Ev (fun k => impl_rr.run k (ops ++ [⟨3, 0, 4611686018427387903, [], false⟩]) v acc) (acc ++ (out ++ [la])) ∧ out.length = ops.length ∧ la.f3 = T ∧ la.f4 = true
  | [], _, v, h, hc, acc => by
    obtain ⟨m, en, v2, e1, b1, _, b3, _, _, b6⟩ := take_step h1 ht h 4611686018427387903 (by omega)
    obtain ⟨c1, c2, c3⟩ := b6 (fun p hp => (hc p hp).elim id (fun ⟨op, ho, _⟩ => absurd ho (by simp))) (by omega)
    subst c1
    refine ⟨[], ⟨0, v2.st, v2.told, (T.drop 0).take m, true⟩, ?_, rfl, by rw [Nat.zero_add] at c3; show (T.drop 0).take m = T; rw [c3, List.drop_zero, List.take_length], rfl⟩
    simp only [List.nil_append, impl_rr.run, impl_rr.step]
    exact evBind (a := (⟨0, v2.st, v2.told, (T.drop 0).take m, true⟩, v2)) (evNeg (by decide) (evNeg (by decide) (evPos (by first | trivial | rfl) (evBind e1 (Ev.now _))))) (Ev.now _)
  | op :: ops, hf, v, h, hc, acc => by
    obtain ⟨f0, o, m, f1, m1, m2, om, f3, f4⟩ := hf op (List.mem_cons_self)
    obtain ⟨v2, e1, b1, b2, b3, b4⟩ := data_step h1 ht h o m m1 m2 om
    have hl : op.f3.length = m := by rw [f3, List.length_take, List.length_drop]; omega
    obtain ⟨out, la, o1, o2, o3⟩ := recvData h1 ht ops (fun q hq => hf q (List.mem_cons_of_mem _ hq)) v2 b1 (fun p hp => (hc p hp).elim (fun hh => .inl (b3 p hh)) (fun ⟨q, hq, hv⟩ => by
      rcases List.mem_cons.1 hq with rfl | hq
      · exact .inl (b4 p (by have := hv.2.1; omega) (by have := hv.2.2; omega))
      · exact .inr ⟨q, hq, hv⟩)) (acc ++ [⟨0, v2.st, v2.told, [], false⟩])
    refine ⟨⟨0, v2.st, v2.told, [], false⟩ :: out, la, ?_, by rw [List.length_cons, List.length_cons, o2], o3⟩
    rw [List.append_assoc] at o1
    rw [← f1, ← f3, ← f4] at e1
    simp only [List.cons_append, impl_rr.run, impl_rr.step]
    rw [e1]
    exact evBind (a := (⟨0, v2.st, v2.told, [], false⟩, v2)) (evPos f0 (evPos (by omega) (Ev.now _))) o1
theorem RI_first {T : List Int} (h1 : 1 ≤ T.length) : RI T 0 ⟨0, 16384, 16384, 0, 0, 0, false, fun _ => none, 0⟩ :=
  ⟨rfl, Nat.zero_le _, fun y x h => absurd h (by simp), (cnt_none _ (fun _ _ => rfl)).symm, ⟨fun h => absurd h (by simp), fun h => h.elim (fun e => by omega) (fun e => absurd e (by simp))⟩, fun h => absurd h (by simp), ⟨Int.le_refl _, by dsimp only; omega⟩, rfl, ⟨Int.le_refl _, by dsimp only; omega⟩, .inl ⟨rfl, rfl⟩⟩
theorem runRecv {T : List Int} (h1 : 1 ≤ T.length) (ht : T.length ≤ 1000) (hw : ∀ x ∈ T, (Lit.int .u8 x).wf = true) (ops : List (S34)) (hf : ∀ op ∈ ops, FineD T op) (hc : ∀ p, p < T.length → ∃ op ∈ ops, coversD op p) (hl : ops.length + 1 ≤ 400) :
    ∃ out la, Ev (fun k => impl_RecvRun.f k 16384 (ops ++ [⟨3, 0, 4611686018427387903, [], false⟩])) (out ++ [la], 0) ∧ out.length = ops.length ∧ la.f3 = T ∧ la.f4 = true := by
  obtain ⟨out, la, o1, o2, o3⟩ := recvData h1 ht ops hf _ (RI_first h1) (fun p hp => .inr (hc p hp)) []
  rw [List.nil_append] at o1
  refine ⟨out, la, ?_, o2, o3⟩
  unfold impl_RecvRun.f
  refine evPos ⟨by omega, by omega, by rw [List.length_append]; exact hl, fun o ho x hx => ?_⟩ (evBind o1 (Ev.now _))
  rcases List.mem_append.1 ho with ho | ho
  · obtain ⟨_, a, m, _, _, _, _, e, _⟩ := hf o ho
    rw [e] at hx; exact hw x (List.mem_of_mem_drop (List.mem_of_mem_take hx))
  · rw [List.mem_singleton.1 ho] at hx; exact absurd hx (by simp)

/-! ### the sending part, in plain Lean -/
def Goes : List (S25) → impl_sd.V → List (S33) → impl_sd.V → Prop
  | [], v, obs, v2 => obs = [] ∧ v2 = v
  | o :: os, v, obs, v2 => ∃ ob v1 rest, impl_sd.step v o = some (ob, v1) ∧ obs = ob :: rest ∧ Goes os v1 rest v2
theorem Goes.run : ∀ (os : List (S25)) (v : impl_sd.V) (obs : List (S33)) (v2 : impl_sd.V) (os2 : List (S25)) (acc : List (S33)), Goes os v obs v2 → impl_sd.run (os ++ os2) v acc = impl_sd.run os2 v2 (acc ++ obs)
  | [], v, obs, v2, os2, acc, h => by
    obtain ⟨rfl, rfl⟩ := h
    simp
  | o :: os, v, obs, v2, os2, acc, h => by
    obtain ⟨ob, v1, rest, h1, rfl, h2⟩ := h
    rw [List.cons_append, impl_sd.run, h1]
    show impl_sd.run (os ++ os2) v1 (acc ++ [ob]) = _
    rw [Goes.run os v1 rest v2 os2 (acc ++ [ob]) h2, List.append_assoc]
    rfl
theorem Goes.append : ∀ {a b : List (S25)} {v v1 v2 : impl_sd.V} {o1 o2 : List (S33)}, Goes a v o1 v1 → Goes b v1 o2 v2 → Goes (a ++ b) v (o1 ++ o2) v2
  | [], _, _, _, _, _, _, h1, h2 => by
    obtain ⟨rfl, rfl⟩ := h1
    exact h2
  | _ :: _, _, _, _, _, _, _, h1, h2 => by
    obtain ⟨ob, v3, rest, e1, rfl, h3⟩ := h1
    exact ⟨ob, v3, _, e1, rfl, Goes.append h3 h2⟩
theorem Goes.len : ∀ {os : List (S25)} {v v2 : impl_sd.V} {obs : List (S33)}, Goes os v obs v2 → obs.length = os.length
  | [], _, _, _, h => by rw [h.1]; rfl
  | _ :: _, _, _, _, h => by
    obtain ⟨ob, v1, rest, _, rfl, h2⟩ := h
    rw [List.length_cons, List.length_cons, Goes.len h2]
theorem sendRun_is {ops : List (S25)} {out : List (S33)} {v2 : impl_sd.V} (h : Goes ops ⟨0, 0, [], [], 0, false, 0⟩ out v2) (hl : ops.length ≤ 400) (k : Nat) : impl_SendRun.f k ops = some (out, 0) := by
  unfold impl_SendRun.f
  have := Goes.run ops _ out v2 [] [] h
  rw [List.append_nil, List.nil_append] at this
  rw [if_pos hl, this]
  rfl
/-! #### what is looked for -/
theorem find_none (is : List Int) : ∀ (d i : Nat), (∀ j, i ≤ j → j < i + d → is.getD j 0 ≠ 3) → impl_sd.find is d i = none
  | 0, _, _ => rfl
  | d + 1, i, h => by
    rw [impl_sd.find, if_neg (h i (Nat.le_refl _) (by omega))]
    exact find_none is d (i + 1) (fun j h1 h2 => h j (by omega) (by omega))
theorem find_some (is : List Int) (q : Nat) (hq : is.getD q 0 = 3) : ∀ (d i : Nat), i ≤ q → q < i + d → (∀ j, i ≤ j → j < q → is.getD j 0 ≠ 3) → impl_sd.find is d i = some q
  | 0, i, h1, h2, _ => absurd h2 (by omega)
  | d + 1, i, h1, h2, h => by
    rw [impl_sd.find]
    by_cases e : i = q
    · subst e
      rw [if_pos hq]
    · rw [if_neg (h i (Nat.le_refl _) (by omega))]
      exact find_some is q hq d (i + 1) (by omega) (by omega) (fun j h3 h4 => h j (by omega) h4)
theorem upto_is (is : List Int) (i : Nat) (n : Int) (e : Nat) : ∀ (d k : Nat), k ≤ e → e ≤ k + d → (∀ j, k ≤ j → j < e → is.getD j 0 = 3) → (e : Int) - (i : Int) ≤ n → (e < k + d → is.getD e 0 ≠ 3) → impl_sd.upto is i n d k = e
  | 0, k, h1, h2, _, _, _ => by rw [impl_sd.upto]; omega
  | d + 1, k, h1, h2, h3, h4, h5 => by
    rw [impl_sd.upto]
    by_cases ek : k = e
    · subst ek
      rw [if_neg (fun h => h5 (by omega) h.1)]
    · rw [if_pos ⟨h3 k (Nat.le_refl _) (by omega), by omega⟩]
      exact upto_is is i n e d (k + 1) (by omega) (by omega) (fun j h6 h7 => h3 j (by omega) h7) h4 (fun h6 => h5 (by omega))
theorem away_split (A B : List Int) : ∀ (M : List Int), impl_sd.away (A ++ M ++ B) A.length M.length = A ++ List.replicate M.length 1 ++ B := by
  have key : ∀ (d : Nat) (M : List Int), d ≤ M.length → impl_sd.away (A ++ M ++ B) A.length d = A ++ (List.replicate d 1 ++ M.drop d) ++ B := by
    intro d
    induction d with
    | zero => intro M _; simp [impl_sd.away]
    | succ d ih =>
      intro M hd
      rw [impl_sd.away, ih M (by omega), List.drop_eq_getElem_cons (show d < M.length by omega), List.append_assoc, List.set_append_right _ _ (by omega), Nat.add_sub_cancel_left, List.append_assoc, List.set_append_right _ _ (by simp), List.length_replicate, Nat.sub_self]
      rw [List.cons_append, List.set_cons_zero, List.replicate_succ']
      simp
  intro M
  rw [key M.length M (Nat.le_refl _), List.drop_eq_nil_of_le (Nat.le_refl _), List.append_nil]
theorem told_split (ac : Bool) (A B : List Int) : ∀ (M : List Int), impl_sd.told ac (A ++ M ++ B) A.length M.length = A ++ M.map (impl_sd.turn ac) ++ B := by
  have key : ∀ (d : Nat) (M : List Int), d ≤ M.length → impl_sd.told ac (A ++ M ++ B) A.length d = A ++ ((M.take d).map (impl_sd.turn ac) ++ M.drop d) ++ B := by
    intro d
    induction d with
    | zero => intro M _; simp [impl_sd.told]
    | succ d ih =>
      intro M hd
      have hl : ((M.take d).map (impl_sd.turn ac)).length = d := by rw [List.length_map, List.length_take]; omega
      have hg : (A ++ ((M.take d).map (impl_sd.turn ac) ++ M.drop d) ++ B).getD (A.length + d) 0 = M[d] := by
        rw [List.getD_eq_getElem?_getD, List.append_assoc, List.getElem?_append_right (by omega), Nat.add_sub_cancel_left, List.append_assoc, List.getElem?_append_right (by omega), hl, Nat.sub_self, List.drop_eq_getElem_cons (show d < M.length by omega)]
        rfl
      rw [impl_sd.told, ih M (by omega), hg, List.drop_eq_getElem_cons (show d < M.length by omega), List.append_assoc, List.set_append_right _ _ (by omega), Nat.add_sub_cancel_left, List.append_assoc, List.set_append_right _ _ (by omega), hl, Nat.sub_self]
      rw [List.cons_append, List.set_cons_zero, List.take_succ_eq_append_getElem (show d < M.length by omega), List.map_append]
      simp
  intro M
  rw [key M.length M (Nat.le_refl _), List.take_length, List.drop_eq_nil_of_le (Nat.le_refl _), List.append_nil]
theorem getD_ne {l : List Int} (h : ∀ x ∈ l, x ≠ 3) (j : Nat) : l.getD j 0 ≠ 3 := by
  rw [List.getD_eq_getElem?_getD]
  cases hq : l[j]? with
  | none => simp
  | some x => exact h x (List.mem_of_getElem? hq)
/-! #### what is told of the pieces -/
def Tell (T : List Int) : List (S33) → List (Nat × Nat) → Prop
  | [], ps => ps = []
  | o :: os, ps => (o.f4 = false ∧ Tell T os ps) ∨ (o.f4 = true ∧ ∃ a m qs, ps = (a, m) :: qs ∧ o.f2 = (a : Int) ∧ o.f3 = (T.drop a).take m ∧ o.f5 = decide (a + m = T.length) ∧ 1 ≤ m ∧ a + m ≤ T.length ∧ Tell T os qs)
def tells (t : Nat) : List (Nat × Nat) → List Bool → List (S25)
  | (a, m) :: ps, b :: bs => ⟨if b = true then 6 else 5, (a : Int), (m : Int), [], decide (a + m = t)⟩ :: tells t ps bs
  | _, _ => []
def recvs (T : List Int) : List (Nat × Nat) → List Bool → List (S34)
  | (a, m) :: ps, b :: bs => (if b = true then [] else [⟨1, (a : Int), 0, (T.drop a).take m, decide (a + m = T.length)⟩]) ++ recvs T ps bs
  | _, _ => []
/-- Pieces one behind the other, from s to t. -/
def Cons (t : Nat) : Nat → List (Nat × Nat) → Prop
  | s, [] => s = t
  | s, (a, m) :: ps => a = s ∧ 1 ≤ m ∧ s + m ≤ t ∧ Cons t (s + m) ps
def pl (n : Int) : S25 := ⟨4, 0, n, [], false⟩
/-! #### A: pieces in order -/
def SA (T : List Int) (s : Nat) : impl_sd.V := ⟨if s = 0 then 0 else if s = T.length then 2 else 1, (T.length : Int), T, List.replicate s 1 ++ List.replicate (T.length - s) 0, s, true, if s = T.length then 1 else 0⟩
theorem isA_ne (s d : Nat) : ∀ x ∈ List.replicate s (1 : Int) ++ List.replicate d (0 : Int), x ≠ 3 := fun x hx => by
  rcases List.mem_append.1 hx with hx | hx
  · rw [List.eq_of_mem_replicate hx]; decide
  · rw [List.eq_of_mem_replicate hx]; decide
theorem stepA_end {T : List Int} (h1 : 1 ≤ T.length) (n : Int) (hn : 1 ≤ n ∧ n ≤ 1500) : impl_sd.step (SA T T.length) (pl n) = some (⟨0, 2, 0, [], false, false, false⟩, SA T T.length) := by
  have hf : impl_sd.find (SA T T.length).is (SA T T.length).sent 0 = none := find_none _ _ _ (fun j _ _ => getD_ne (isA_ne _ _) j)
  have hst : (SA T T.length).st = 2 := by show (if T.length = 0 then (0 : Int) else if T.length = T.length then 2 else 1) = 2; rw [if_neg (by omega), if_pos rfl]
  have hfin : (SA T T.length).fin = 1 := by show (if T.length = T.length then (1 : Int) else 0) = 1; rw [if_pos rfl]
  have hx : impl_sd.next (SA T T.length) n = (0, 0, false) := by
    unfold impl_sd.next
    rw [if_neg (by rw [hst]; decide), hf]
    dsimp only
    rw [if_neg (by show ¬ ((T.length : Int) < min (T.length : Int) (T.length : Int)); omega), hfin, if_neg (by simp)]
  have hp : impl_sd.pull (SA T T.length) n = (⟨0, 0, 0, [], false, false, false⟩, SA T T.length) := by
    unfold impl_sd.pull
    rw [if_neg (by omega), hx, if_pos rfl, hst]
    have : decide ((SA T T.length).sent < (SA T T.length).data.length) = false := decide_eq_false (Nat.lt_irrefl _)
    rw [this]
    rfl
  unfold impl_sd.step pl
  dsimp only
  rw [if_neg (by decide), if_neg (by decide), if_neg (by decide), if_pos rfl, hp]
  simp only [hst]
theorem stepA {T : List Int} (h1 : 1 ≤ T.length) (s : Nat) (hs : s < T.length) (n : Int) (hn : 1 ≤ n ∧ n ≤ 1500) : ∃ m ob, impl_sd.step (SA T s) (pl n) = some (ob, SA T (s + m)) ∧ 1 ≤ m ∧ s + m ≤ T.length ∧ ((m : Int) = n ∨ s + m = T.length) ∧ ob.f4 = true ∧ ob.f2 = (s : Int) ∧ ob.f3 = (T.drop s).take m ∧ ob.f5 = decide (s + m = T.length) := by
  have hf : impl_sd.find (SA T s).is (SA T s).sent 0 = none := find_none _ _ _ (fun j _ _ => getD_ne (isA_ne _ _) j)
  obtain ⟨m, hm⟩ : ∃ m : Nat, (m : Int) = min n ((T.length : Int) - (s : Int)) := ⟨(min n ((T.length : Int) - (s : Int))).toNat, by omega⟩
  have hst : (SA T s).st = if s = 0 then 0 else 1 := by show (if s = 0 then (0 : Int) else if s = T.length then 2 else 1) = _; rw [if_neg (show ¬ s = T.length by omega)]
  have hfin : (SA T s).fin = 0 := by show (if s = T.length then (1 : Int) else 0) = 0; rw [if_neg (by omega)]
  have hx : impl_sd.next (SA T s) n = ((s : Int), (m : Int), true) := by
    unfold impl_sd.next
    rw [if_neg (by rw [hst]; split <;> decide), hf]
    dsimp only
    rw [if_pos (by show (s : Int) < min (T.length : Int) (T.length : Int); omega)]
    show ((s : Int), min n (min (T.length : Int) (T.length : Int) - (s : Int)), true) = _
    rw [hm, show min (T.length : Int) (T.length : Int) = (T.length : Int) by omega]
  have haw : impl_sd.away (SA T s).is s m = List.replicate (s + m) 1 ++ List.replicate (T.length - (s + m)) 0 := by
    have e := away_split (List.replicate s 1) (List.replicate (T.length - (s + m)) 0) (List.replicate m 0)
    rw [List.length_replicate, List.length_replicate] at e
    have e2 : (SA T s).is = List.replicate s 1 ++ List.replicate m 0 ++ List.replicate (T.length - (s + m)) 0 := by
      show List.replicate s 1 ++ List.replicate (T.length - s) 0 = _
      rw [List.append_assoc, List.replicate_append_replicate, show m + (T.length - (s + m)) = T.length - s by omega]
    rw [e2, e, List.replicate_append_replicate]
  have hp : ∃ ob, impl_sd.pull (SA T s) n = (ob, SA T (s + m)) ∧ ob.f4 = true ∧ ob.f2 = (s : Int) ∧ ob.f3 = (T.drop s).take m ∧ ob.f5 = decide (s + m = T.length) := by
    unfold impl_sd.pull
    rw [if_neg (by omega), hx, if_neg (by simp)]
    dsimp only
    rw [Int.toNat_natCast, Int.toNat_natCast, haw, hfin, hst]
    have e3 : max (SA T s).sent (s + m) = s + m := by show max s (s + m) = s + m; omega
    rw [e3]
    show ∃ ob, (if (true && (s + m == T.length) && ((0 : Int) != 2)) = true then ((⟨0, 0, (s : Int), (T.drop s).take m, true, true, false⟩ : S33), (⟨2, (T.length : Int), T, List.replicate (s + m) 1 ++ List.replicate (T.length - (s + m)) 0, s + m, true, 1⟩ : impl_sd.V)) else if (if s = 0 then (0 : Int) else 1) = 0 then (⟨0, 0, (s : Int), (T.drop s).take m, true, false, false⟩, ⟨1, (T.length : Int), T, List.replicate (s + m) 1 ++ List.replicate (T.length - (s + m)) 0, s + m, true, 0⟩) else (⟨0, 0, (s : Int), (T.drop s).take m, true, false, false⟩, ⟨if s = 0 then (0 : Int) else 1, (T.length : Int), T, List.replicate (s + m) 1 ++ List.replicate (T.length - (s + m)) 0, s + m, true, 0⟩)) = (ob, SA T (s + m)) ∧ _
    unfold SA
    by_cases e : s + m = T.length
    · rw [if_pos (by simp [e]), if_neg (show ¬ s + m = 0 by omega), if_pos e, if_pos e, decide_eq_true e]
      exact ⟨_, rfl, rfl, rfl, rfl, rfl⟩
    · rw [if_neg (by simp [e]), if_neg (show ¬ s + m = 0 by omega), if_neg e, if_neg e, decide_eq_false e]
      by_cases e0 : s = 0
      · rw [if_pos e0, if_pos rfl]
        exact ⟨_, rfl, rfl, rfl, rfl, rfl⟩
      · rw [if_neg e0, if_neg (by decide)]
        exact ⟨_, rfl, rfl, rfl, rfl, rfl⟩
  obtain ⟨ob, p1, p2, p3, p4, p5⟩ := hp
  refine ⟨m, { ob with f1 := (SA T (s + m)).st }, ?_, by omega, by omega, by omega, p2, p3, p4, p5⟩
  unfold impl_sd.step pl
  dsimp only
  rw [if_neg (by decide), if_neg (by decide), if_neg (by decide), if_pos rfl, p1]
theorem goesA {T : List Int} (h1 : 1 ≤ T.length) : ∀ (ns : List Int) (s : Nat), (∀ n ∈ ns, 10 ≤ n ∧ n ≤ 1500) → s ≤ T.length → T.length ≤ s + 10 * ns.length → ∃ obs ps, Goes (ns.map pl) (SA T s) obs (SA T T.length) ∧ Tell T obs ps ∧ Cons T.length s ps ∧ ps.length ≤ ns.length
  | [], s, _, h2, h3 => by
    have e : s = T.length := by simp at h3; omega
    subst e
    exact ⟨[], [], ⟨rfl, rfl⟩, rfl, rfl, Nat.le_refl _⟩
  | n :: ns, s, hn, h2, h3 => by
    have hn1 := hn n (List.mem_cons_self)
    rw [List.length_cons] at h3
    by_cases e : s = T.length
    · subst e
      obtain ⟨obs, ps, g1, g2, g3, g4⟩ := goesA h1 ns T.length (fun x hx => hn x (List.mem_cons_of_mem _ hx)) (Nat.le_refl _) (by omega)
      exact ⟨_ :: obs, ps, ⟨_, _, _, stepA_end h1 n (by omega), rfl, g1⟩, .inl ⟨rfl, g2⟩, g3, by rw [List.length_cons]; omega⟩
    · obtain ⟨m, ob, q1, q2, q3, q4, q5, q6, q7, q8⟩ := stepA h1 s (by omega) n (by omega)
      obtain ⟨obs, ps, g1, g2, g3, g4⟩ := goesA h1 ns (s + m) (fun x hx => hn x (List.mem_cons_of_mem _ hx)) q3 (by omega)
      exact ⟨ob :: obs, (s, m) :: ps, ⟨_, _, _, q1, rfl, g1⟩, .inr ⟨q5, s, m, ps, rfl, q6, q7, q8, q2, q3, g2⟩, ⟨rfl, q2, q3, g3⟩, by rw [List.length_cons, List.length_cons]; omega⟩

/-! #### B: each piece told as come or lost -/
def SF (T is : List Int) (st fin : Int) : impl_sd.V := ⟨st, (T.length : Int), T, is, T.length, true, fin⟩
def flat : List (Nat × Nat) → List Bool → List Int
  | (_, m) :: ps, b :: bs => List.replicate m (if b = true then 3 else 2) ++ flat ps bs
  | _, _ => []
theorem stepTell {T is : List Int} {st fin : Int} (hst : st ≤ 2) (a m : Nat) (ham : a + m ≤ T.length) (fn ac : Bool) (hfn : fn = true → fin ≠ 0 ∧ a + m = T.length) (is2 : List Int) (fin2 : Int) (h1 : impl_sd.told ac is a m = is2) (h2 : (if fn = true then impl_sd.turn ac fin else fin) = fin2) :
    impl_sd.step (SF T is st fin) ⟨if ac = true then 5 else 6, (a : Int), (m : Int), [], fn⟩ = some (⟨0, if fin2 = 2 ∧ impl_sd.acked is2 = true then 3 else st, 0, [], false, false, false⟩, SF T is2 (if fin2 = 2 ∧ impl_sd.acked is2 = true then 3 else st) fin2) := by
  have hh : impl_sd.heard (SF T is st fin) (a : Int) (m : Int) fn ac = (0, SF T is2 (if fin2 = 2 ∧ impl_sd.acked is2 = true then 3 else st) fin2) := by
    unfold impl_sd.heard
    rw [if_neg (by show ¬ ((a : Int) < 0 ∨ (m : Int) < 0 ∨ (T.length : Int) < (a : Int) ∨ (T.length : Int) - (a : Int) < (m : Int)); omega), if_neg (by
      show ¬ (fn = true ∧ (fin = 0 ∨ (a : Int) + (m : Int) ≠ (T.length : Int)))
      rintro ⟨c1, c2⟩
      have := hfn c1
      rcases c2 with c2 | c2
      · exact this.1 c2
      · omega), if_neg (by show ¬ 2 < st; omega)]
    show (if (if fn = true then impl_sd.turn ac fin else fin) = 2 ∧ impl_sd.acked (impl_sd.told ac is (a : Int).toNat (m : Int).toNat) = true then ((0 : Int), (⟨3, (T.length : Int), T, impl_sd.told ac is (a : Int).toNat (m : Int).toNat, T.length, true, if fn = true then impl_sd.turn ac fin else fin⟩ : impl_sd.V)) else (0, ⟨st, (T.length : Int), T, impl_sd.told ac is (a : Int).toNat (m : Int).toNat, T.length, true, if fn = true then impl_sd.turn ac fin else fin⟩)) = _
    rw [Int.toNat_natCast, Int.toNat_natCast, h1, h2]
    unfold SF
    by_cases c : fin2 = 2 ∧ impl_sd.acked is2 = true
    · rw [if_pos c, if_pos c]
    · rw [if_neg c, if_neg c]
  unfold impl_sd.step
  dsimp only
  cases ac with
  | true =>
    rw [if_neg (by decide), if_neg (by decide), if_neg (by decide), if_neg (by decide), if_pos (by decide)]
    have e : ((if true = true then (5 : Int) else 6) == 5) = true := by decide
    rw [e, hh]
    rfl
  | false =>
    rw [if_neg (by decide), if_neg (by decide), if_neg (by decide), if_neg (by decide), if_pos (by decide)]
    have e : ((if false = true then (5 : Int) else 6) == 5) = false := by decide
    rw [e, hh]
    rfl
theorem turn1 (b : Bool) : impl_sd.turn (!b) 1 = if b = true then 3 else 2 := by cases b <;> rfl
theorem tells_kind (b : Bool) : (if b = true then (6 : Int) else 5) = if (!b) = true then 5 else 6 := by cases b <;> rfl
theorem last_get (X : List Int) (m : Nat) (x : Int) (hm : 1 ≤ m) : (X ++ List.replicate m x).getD (X.length + m - 1) 0 = x := by
  rw [List.getD_eq_getElem?_getD, List.getElem?_append_right (by omega), List.getElem?_replicate, if_pos (by omega)]
  rfl
theorem acked_no {l : List Int} (h : impl_sd.acked l = true) : ∀ x ∈ l, x = 2 := fun x hx => by
  unfold impl_sd.acked at h
  have := List.all_eq_true.1 h x hx
  simpa using this
theorem acked_of {l : List Int} (h : ∀ x ∈ l, x = 2) : impl_sd.acked l = true := by
  unfold impl_sd.acked
  exact List.all_eq_true.2 (fun x hx => by rw [h x hx]; rfl)
theorem goesB {T : List Int} : ∀ (ps : List (Nat × Nat)) (bs : List Bool) (s : Nat) (X : List Int), Cons T.length s ps → bs.length = ps.length → X.length = s → ps ≠ [] →
    ∃ obs is2 fin, Goes (tells T.length ps bs) (SF T (X ++ List.replicate (T.length - s) 1) 2 1) obs (SF T is2 (if fin = 2 ∧ impl_sd.acked is2 = true then 3 else 2) fin) ∧ is2 = X ++ flat ps bs ∧ is2.length = T.length ∧ ((fin = 2 ∧ is2.getD (T.length - 1) 0 = 2) ∨ (fin = 3 ∧ is2.getD (T.length - 1) 0 = 3))
  | [], _, _, _, _, _, _, h => absurd rfl h
  | (a, m) :: ps, [], _, _, _, h, _, _ => absurd h (by simp)
  | (a, m) :: ps, b :: bs, s, X, hc, hl, hX, _ => by
    obtain ⟨rfl, m1, m2, hc2⟩ := hc
    subst hX
    have e1 : X ++ List.replicate (T.length - X.length) 1 = X ++ List.replicate m 1 ++ List.replicate (T.length - (X.length + m)) 1 := by
      rw [List.append_assoc, List.replicate_append_replicate, show m + (T.length - (X.length + m)) = T.length - X.length by omega]
    have e2 : impl_sd.told (!b) (X ++ List.replicate (T.length - X.length) 1) X.length m = X ++ List.replicate m (if b = true then 3 else 2) ++ List.replicate (T.length - (X.length + m)) 1 := by
      have := told_split (!b) X (List.replicate (T.length - (X.length + m)) 1) (List.replicate m 1)
      rw [List.length_replicate, List.map_replicate, turn1] at this
      rw [e1, this]
    have hl2 : (X ++ List.replicate m (if b = true then (3 : Int) else 2)).length = X.length + m := by rw [List.length_append, List.length_replicate]
    by_cases ht : X.length + m = T.length
    · have hps : ps = [] := by
        cases ps with
        | nil => rfl
        | cons p ps => obtain ⟨_, k1, k2, _⟩ := hc2; omega
      subst hps
      have e3 : flat ([] : List (Nat × Nat)) bs = [] := by cases bs <;> rfl
      have e4 : tells T.length ([] : List (Nat × Nat)) bs = [] := by cases bs <;> rfl
      have e5 : X ++ flat ((X.length, m) :: []) (b :: bs) = X ++ List.replicate m (if b = true then 3 else 2) := by simp [flat, e3]
      have st := stepTell (T := T) (is := X ++ List.replicate (T.length - X.length) 1) (st := 2) (fin := 1) (Int.le_refl _) X.length m m2 (decide (X.length + m = T.length)) (!b) (fun _ => ⟨by decide, ht⟩) _ (if b = true then 3 else 2) e2 (by rw [decide_eq_true ht, if_pos rfl, turn1])
      have e6 : List.replicate (T.length - (X.length + m)) (1 : Int) = [] := by rw [ht, Nat.sub_self]; rfl
      rw [e6, List.append_nil] at st
      rw [← tells_kind] at st
      refine ⟨_, _, _, ⟨_, _, _, st, rfl, by rw [e4]; exact ⟨rfl, rfl⟩⟩, e5.symm, by rw [hl2]; exact ht, ?_⟩
      · have hg := last_get X m (if b = true then 3 else 2) m1
        rw [ht] at hg
        rw [hg]
        cases b
        · exact .inl ⟨rfl, rfl⟩
        · exact .inr ⟨rfl, rfl⟩
    · have hps : ps ≠ [] := fun e => by subst e; exact ht hc2
      obtain ⟨obs, is2, fin, g1, g2, g3, g4⟩ := goesB ps bs (X.length + m) (X ++ List.replicate m (if b = true then 3 else 2)) hc2 (by simpa using hl) hl2 hps
      have st := stepTell (T := T) (is := X ++ List.replicate (T.length - X.length) 1) (st := 2) (fin := 1) (Int.le_refl _) X.length m m2 (decide (X.length + m = T.length)) (!b) (fun h => absurd (of_decide_eq_true h) ht) _ 1 e2 (by rw [decide_eq_false ht, if_neg (by simp)])
      rw [if_neg (fun h => absurd h.1 (by decide) : ¬ ((1 : Int) = 2 ∧ impl_sd.acked _ = true)), ← tells_kind] at st
      exact ⟨_ :: obs, is2, fin, ⟨_, _, _, st, rfl, g1⟩, by rw [g2, List.append_assoc]; rfl, g3, g4⟩
theorem flat_mem : ∀ (ps : List (Nat × Nat)) (bs : List Bool), ∀ x ∈ flat ps bs, x = 2 ∨ x = 3
  | [], _, x, h => by simp [flat] at h
  | _ :: _, [], x, h => by simp [flat] at h
  | (a, m) :: ps, b :: bs, x, h => by
    simp only [flat] at h
    rcases List.mem_append.1 h with h | h
    · rw [List.eq_of_mem_replicate h]
      cases b
      · exact .inl rfl
      · exact .inr rfl
    · exact flat_mem ps bs x h
/-- How many runs of lost bytes there are. -/
def ends : List Int → Nat
  | [] => 0
  | [x] => if x = 3 then 1 else 0
  | x :: y :: r => (if x = 3 ∧ y ≠ 3 then 1 else 0) + ends (y :: r)
theorem ends_cons (x : Int) (l : List Int) : ends l ≤ ends (x :: l) ∧ ends (x :: l) ≤ 1 + ends l := by
  cases l with
  | nil => simp only [ends]; split <;> omega
  | cons y r => simp only [ends]; split <;> omega
theorem ends_rep (x : Int) : ∀ (m : Nat) (l : List Int), ends (List.replicate m x ++ l) ≤ 1 + ends l
  | 0, l => by simp
  | 1, l => (ends_cons x l).2
  | m + 2, l => by
    have ih := ends_rep x (m + 1) l
    rw [List.replicate_succ, List.cons_append] at ih ⊢
    rw [List.replicate_succ, List.cons_append]
    simp only [ends]
    rw [if_neg (fun h => h.2 h.1)]
    omega
theorem ends_flat : ∀ (ps : List (Nat × Nat)) (bs : List Bool), ends (flat ps bs) ≤ ps.length
  | [], _ => by simp [flat, ends]
  | _ :: _, [] => by simp [flat, ends]
  | (a, m) :: ps, b :: bs => by
    have h1 := ends_rep (if b = true then 3 else 2) m (flat ps bs)
    have h2 := ends_flat ps bs
    simp only [flat, List.length_cons]
    omega
theorem run3 : ∀ (l : List Int), ∃ m B, 3 :: l = List.replicate m 3 ++ B ∧ 1 ≤ m ∧ (∀ x r, B = x :: r → x ≠ 3) ∧ 1 + ends B ≤ ends (3 :: l)
  | [] => ⟨1, [], rfl, Nat.le_refl _, fun _ _ h => absurd h (by simp), by simp [ends]⟩
  | y :: r => by
    by_cases h : y = 3
    · subst h
      obtain ⟨m, B, e, h1, h2, h3⟩ := run3 r
      refine ⟨m + 1, B, by rw [List.replicate_succ, List.cons_append, e], by omega, h2, ?_⟩
      simp only [ends]
      omega
    · refine ⟨1, y :: r, rfl, Nat.le_refl _, fun x q hx => ?_, ?_⟩
      · injection hx with hx _
        rw [← hx]; exact h
      · simp only [ends]
        rw [if_pos (by simp [h])]
        omega
theorem runs : ∀ (l : List Int), (∀ x ∈ l, x ≠ 3) ∨ ∃ A m B, l = A ++ List.replicate m 3 ++ B ∧ 1 ≤ m ∧ (∀ x ∈ A, x ≠ 3) ∧ (∀ x r, B = x :: r → x ≠ 3) ∧ 1 + ends B ≤ ends l
  | [] => .inl (fun x h => absurd h (by simp))
  | x :: l => by
    by_cases h : x = 3
    · subst h
      obtain ⟨m, B, e, h1, h2, h3⟩ := run3 l
      exact .inr ⟨[], m, B, e, h1, fun x hx => absurd hx (by simp), h2, h3⟩
    · rcases runs l with g | ⟨A, m, B, e, h1, h2, h3, h4⟩
      · exact .inl (fun y hy => by
          rcases List.mem_cons.1 hy with rfl | hy
          · exact h
          · exact g y hy)
      · refine .inr ⟨x :: A, m, B, by rw [e]; simp, h1, fun y hy => ?_, h3, by have := (ends_cons x l).1; omega⟩
        rcases List.mem_cons.1 hy with rfl | hy
        · exact h
        · exact h2 y hy
def cov (cs : List (Nat × Nat)) (p : Nat) : Prop := ∃ c ∈ cs, c.1 ≤ p ∧ p < c.1 + c.2
/-! #### C: the lost ones are sent again -/
theorem stepC_none {T is : List Int} {st fin : Int} (h : 2 < st ∨ (st ≤ 2 ∧ (∀ x ∈ is, x ≠ 3) ∧ fin ≠ 0 ∧ fin ≠ 3)) (n : Int) (hn : 1 ≤ n ∧ n ≤ 1500) : impl_sd.step (SF T is st fin) (pl n) = some (⟨0, st, 0, [], false, false, false⟩, SF T is st fin) := by
  have hx : impl_sd.next (SF T is st fin) n = (0, 0, false) := by
    unfold impl_sd.next
    rcases h with h | ⟨h, h3, h4, h5⟩
    · rw [if_pos (show 2 < (SF T is st fin).st from h)]
    · rw [if_neg (show ¬ 2 < (SF T is st fin).st from by show ¬ 2 < st; omega), show impl_sd.find (SF T is st fin).is (SF T is st fin).sent 0 = none from find_none _ _ _ (fun j _ _ => getD_ne h3 j)]
      dsimp only
      have e1 : (fin == 0 || fin == 3) = false := by simp [h4, h5]
      rw [if_neg (show ¬ (((SF T is st fin).sent : Int) < min ((SF T is st fin).data.length : Int) (SF T is st fin).credit) from by show ¬ ((T.length : Int) < min (T.length : Int) (T.length : Int)); omega), if_neg (show ¬ ((SF T is st fin).finish && (((SF T is st fin).sent : Int) == ((SF T is st fin).data.length : Int)) && ((SF T is st fin).fin == 0 || (SF T is st fin).fin == 3)) = true from by show ¬ (true && ((T.length : Int) == (T.length : Int)) && (fin == 0 || fin == 3)) = true; rw [e1]; simp)]
  have hp : impl_sd.pull (SF T is st fin) n = (⟨0, 0, 0, [], false, false, false⟩, SF T is st fin) := by
    unfold impl_sd.pull
    rw [if_neg (by omega), hx, if_pos rfl]
    have : decide ((SF T is st fin).sent < (SF T is st fin).data.length) = false := decide_eq_false (Nat.lt_irrefl _)
    rw [this, Bool.and_false]
  unfold impl_sd.step pl
  dsimp only
  rw [if_neg (by decide), if_neg (by decide), if_neg (by decide), if_pos rfl, hp]
  rfl
theorem getD_rep (A B : List Int) (m : Nat) (x : Int) (p : Nat) (h1 : A.length ≤ p) (h2 : p < A.length + m) : (A ++ List.replicate m x ++ B).getD p 0 = x := by
  rw [List.getD_eq_getElem?_getD, List.append_assoc, List.getElem?_append_right h1, List.getElem?_append_left (by rw [List.length_replicate]; omega), List.getElem?_replicate, if_pos (by omega)]
  rfl
theorem getD_pre (A B C D : List Int) (p : Nat) (h : p < A.length) : (A ++ B ++ C).getD p 0 = (A ++ D ++ C).getD p 0 := by
  rw [List.getD_eq_getElem?_getD, List.getD_eq_getElem?_getD, List.append_assoc, List.append_assoc, List.getElem?_append_left h, List.getElem?_append_left h]
theorem getD_post (A B C D : List Int) (p : Nat) (hl : B.length = D.length) (h : A.length + B.length ≤ p) : (A ++ B ++ C).getD p 0 = (A ++ D ++ C).getD p 0 := by
  rw [List.getD_eq_getElem?_getD, List.getD_eq_getElem?_getD, List.getElem?_append_right (by rw [List.length_append]; omega), List.getElem?_append_right (by rw [List.length_append]; omega), List.length_append, List.length_append, hl]
theorem stepC {T : List Int} (ht : T.length ≤ 1000) (A B : List Int) (m : Nat) (hm : 1 ≤ m) (hA : ∀ x ∈ A, x ≠ 3) (hB : ∀ x r, B = x :: r → x ≠ 3) (hl : (A ++ List.replicate m 3 ++ B).length = T.length) (fin : Int) (hf : A.length + m = T.length → fin ≠ 2) :
    ∃ ob, impl_sd.step (SF T (A ++ List.replicate m 3 ++ B) 2 fin) (pl 1500) = some (ob, SF T (A ++ List.replicate m 1 ++ B) 2 (if A.length + m = T.length then 1 else fin)) ∧ ob.f4 = true ∧ ob.f2 = (A.length : Int) ∧ ob.f3 = (T.drop A.length).take m ∧ ob.f5 = decide (A.length + m = T.length) := by
  have hl2 : A.length + m + B.length = T.length := by rw [List.length_append, List.length_append, List.length_replicate] at hl; omega
  have h3 : ∀ j, A.length ≤ j → j < A.length + m → (A ++ List.replicate m 3 ++ B).getD j 0 = 3 := fun j q1 q2 => getD_rep A B m 3 j q1 q2
  have hno : ∀ j, j < A.length → (A ++ List.replicate m 3 ++ B).getD j 0 ≠ 3 := fun j hj => by
    rw [List.getD_eq_getElem?_getD, List.append_assoc, List.getElem?_append_left hj, List.getElem?_eq_getElem hj]
    exact hA _ (List.getElem_mem hj)
  have hx : impl_sd.next (SF T (A ++ List.replicate m 3 ++ B) 2 fin) 1500 = ((A.length : Int), (m : Int), true) := by
    unfold impl_sd.next
    rw [if_neg (show ¬ 2 < (SF T (A ++ List.replicate m 3 ++ B) 2 fin).st from by show ¬ ((2 : Int) < 2); omega), show impl_sd.find (SF T (A ++ List.replicate m 3 ++ B) 2 fin).is (SF T (A ++ List.replicate m 3 ++ B) 2 fin).sent 0 = some A.length from find_some _ A.length (h3 _ (Nat.le_refl _) (by omega)) T.length 0 (Nat.zero_le _) (by omega) (fun j _ q => hno j q)]
    show ((A.length : Int), ((impl_sd.upto (A ++ List.replicate m 3 ++ B) A.length 1500 (T.length - A.length) A.length : Nat) : Int) - (A.length : Int), true) = _
    rw [upto_is _ A.length 1500 (A.length + m) (T.length - A.length) A.length (by omega) (by omega) (fun j q1 q2 => h3 j q1 q2) (by omega) (fun hlt => ?_)]
    · rw [show (((A.length + m : Nat) : Int) - (A.length : Int)) = (m : Int) by omega]
    · cases hb : B with
      | nil => rw [hb] at hl2; simp at hl2; omega
      | cons y r =>
        have : (A ++ List.replicate m 3 ++ (y :: r)).getD (A.length + m) 0 = y := by
          rw [List.getD_eq_getElem?_getD, List.getElem?_append_right (by rw [List.length_append, List.length_replicate]; omega), List.length_append, List.length_replicate, Nat.sub_self]
          rfl
        rw [this]
        exact hB y r hb
  have haw : impl_sd.away (A ++ List.replicate m 3 ++ B) A.length m = A ++ List.replicate m 1 ++ B := by
    have := away_split A B (List.replicate m 3)
    rw [List.length_replicate] at this
    exact this
  have hp : ∃ ob, impl_sd.pull (SF T (A ++ List.replicate m 3 ++ B) 2 fin) 1500 = (ob, SF T (A ++ List.replicate m 1 ++ B) 2 (if A.length + m = T.length then 1 else fin)) ∧ ob.f4 = true ∧ ob.f2 = (A.length : Int) ∧ ob.f3 = (T.drop A.length).take m ∧ ob.f5 = decide (A.length + m = T.length) := by
    unfold impl_sd.pull
    rw [if_neg (by omega), hx, if_neg (by simp)]
    show ∃ ob, (if (true && ((A.length : Int).toNat + (m : Int).toNat == T.length) && (fin != 2)) = true then ((⟨0, 0, (((A.length : Int).toNat : Nat) : Int), (T.drop (A.length : Int).toNat).take (m : Int).toNat, true, true, false⟩ : S33), (⟨2, (T.length : Int), T, impl_sd.away (A ++ List.replicate m 3 ++ B) (A.length : Int).toNat (m : Int).toNat, max T.length ((A.length : Int).toNat + (m : Int).toNat), true, 1⟩ : impl_sd.V)) else if (2 : Int) = 0 then (⟨0, 0, (((A.length : Int).toNat : Nat) : Int), (T.drop (A.length : Int).toNat).take (m : Int).toNat, true, false, false⟩, ⟨1, (T.length : Int), T, impl_sd.away (A ++ List.replicate m 3 ++ B) (A.length : Int).toNat (m : Int).toNat, max T.length ((A.length : Int).toNat + (m : Int).toNat), true, fin⟩) else (⟨0, 0, (((A.length : Int).toNat : Nat) : Int), (T.drop (A.length : Int).toNat).take (m : Int).toNat, true, false, false⟩, ⟨2, (T.length : Int), T, impl_sd.away (A ++ List.replicate m 3 ++ B) (A.length : Int).toNat (m : Int).toNat, max T.length ((A.length : Int).toNat + (m : Int).toNat), true, fin⟩)) = (ob, SF T (A ++ List.replicate m 1 ++ B) 2 (if A.length + m = T.length then 1 else fin)) ∧ _
    rw [Int.toNat_natCast, Int.toNat_natCast, haw]
    have e3 : max T.length (A.length + m) = T.length := by omega
    rw [e3]
    unfold SF
    by_cases e : A.length + m = T.length
    · have e4 : (fin != 2) = true := by simpa using hf e
      have c1 : (true && (A.length + m == T.length) && (fin != 2)) = true := by rw [e4, beq_iff_eq.2 e]; rfl
      rw [if_pos c1, if_pos e, decide_eq_true e]
      exact ⟨_, rfl, rfl, rfl, rfl, rfl⟩
    · have c1 : ¬ (true && (A.length + m == T.length) && (fin != 2)) = true := by rw [beq_eq_false_iff_ne.2 e]; simp
      rw [if_neg c1, if_neg e, decide_eq_false e, if_neg (by decide)]
      exact ⟨_, rfl, rfl, rfl, rfl, rfl⟩
  obtain ⟨ob, p1, p2, p3, p4, p5⟩ := hp
  refine ⟨{ ob with f1 := 2 }, ?_, p2, p3, p4, p5⟩
  unfold impl_sd.step pl
  dsimp only
  rw [if_neg (by decide), if_neg (by decide), if_neg (by decide), if_pos rfl, p1]
  rfl
theorem goesN {T is : List Int} {st fin : Int} (h : 2 < st ∨ (st ≤ 2 ∧ (∀ x ∈ is, x ≠ 3) ∧ fin ≠ 0 ∧ fin ≠ 3)) : ∀ d : Nat, ∃ obs, Goes (List.replicate d (pl 1500)) (SF T is st fin) obs (SF T is st fin) ∧ Tell T obs [] ∧ (∀ o ∈ obs, o.f1 = st)
  | 0 => ⟨[], ⟨rfl, rfl⟩, rfl, fun o h => absurd h (by simp)⟩
  | d + 1 => by
    obtain ⟨obs, g1, g2, g3⟩ := goesN h d
    refine ⟨_ :: obs, ⟨_, _, _, stepC_none h 1500 (by omega), rfl, g1⟩, .inl ⟨rfl, g2⟩, fun o ho => ?_⟩
    rcases List.mem_cons.1 ho with rfl | ho
    · rfl
    · exact g3 o ho
theorem goesC {T : List Int} (h1 : 1 ≤ T.length) (ht : T.length ≤ 1000) : ∀ (d : Nat) (pre B : List Int) (fin : Int), ends B ≤ d → (∀ x ∈ pre, x ≠ 3) → (pre ++ B).length = T.length → ((fin = 3 ∧ (pre ++ B).getD (T.length - 1) 0 = 3) ∨ ((fin = 1 ∨ fin = 2) ∧ (pre ++ B).getD (T.length - 1) 0 ≠ 3)) →
    ∃ obs cs is2 fin2, Goes (List.replicate d (pl 1500)) (SF T (pre ++ B) 2 fin) obs (SF T is2 2 fin2) ∧ Tell T obs cs ∧ is2.length = T.length ∧ cs.length ≤ d ∧ (∀ c ∈ cs, 1 ≤ c.2 ∧ c.1 + c.2 ≤ T.length) ∧ (∀ p, p < T.length → (pre ++ B).getD p 0 = 3 → cov cs p) ∧ (∀ p, p < T.length → is2.getD p 0 = if (pre ++ B).getD p 0 = 3 then 1 else (pre ++ B).getD p 0) ∧
      (fin ≠ 3 → fin2 = fin) ∧ (fin = 3 → fin2 = 1 ∧ ∃ c ∈ cs, c.1 + c.2 = T.length) := by
  intro d
  induction d with
  | zero =>
    intro pre B fin he hp hl hf
    have hB : ∀ x ∈ B, x ≠ 3 := by
      rcases runs B with h | ⟨A, m, B2, _, _, _, _, h4⟩
      · exact h
      · omega
    have hno : ∀ x ∈ pre ++ B, x ≠ 3 := fun x hx => (List.mem_append.1 hx).elim (hp x) (hB x)
    have hf3 : fin ≠ 3 := fun e => by
      rcases hf with ⟨_, h⟩ | ⟨h, _⟩
      · exact getD_ne hno _ h
      · omega
    exact ⟨[], [], _, fin, ⟨rfl, rfl⟩, rfl, hl, Nat.le_refl _, fun c h => absurd h (by simp), fun p _ h => absurd h (getD_ne hno p), fun p _ => (if_neg (getD_ne hno p)).symm, fun _ => rfl, fun h => absurd h hf3⟩
  | succ d ih =>
    intro pre B fin he hp hl hf
    rcases runs B with hB | ⟨A, m, B2, e, hm, hA, hB2, h4⟩
    · have hno : ∀ x ∈ pre ++ B, x ≠ 3 := fun x hx => (List.mem_append.1 hx).elim (hp x) (hB x)
      have hf3 : fin ≠ 3 := fun e => by
        rcases hf with ⟨_, h⟩ | ⟨h, _⟩
        · exact getD_ne hno _ h
        · omega
      have hf0 : fin ≠ 0 := by rcases hf with ⟨h, _⟩ | ⟨h, _⟩ <;> omega
      obtain ⟨obs, g1, g2, _⟩ := goesN (T := T) (is := pre ++ B) (st := 2) (fin := fin) (.inr ⟨Int.le_refl _, hno, hf0, hf3⟩) (d + 1)
      exact ⟨obs, [], _, fin, g1, g2, hl, Nat.zero_le _, fun c h => absurd h (by simp), fun p _ h => absurd h (getD_ne hno p), fun p _ => (if_neg (getD_ne hno p)).symm, fun _ => rfl, fun h => absurd h hf3⟩
    · have ep : pre ++ B = (pre ++ A) ++ List.replicate m 3 ++ B2 := by rw [e]; simp
      rw [ep] at hl hf ⊢
      have hpA : ∀ x ∈ pre ++ A, x ≠ 3 := fun x hx => (List.mem_append.1 hx).elim (hp x) (hA x)
      have hl2 : (pre ++ A).length + m + B2.length = T.length := by have := hl; rw [List.length_append, List.length_append, List.length_replicate] at this; omega
      have hlast : (pre ++ A).length + m = T.length → ((pre ++ A) ++ List.replicate m 3 ++ B2).getD (T.length - 1) 0 = 3 := fun hh => getD_rep _ _ _ _ _ (by omega) (by omega)
      have hf2 : (pre ++ A).length + m = T.length → fin ≠ 2 := fun hh e2 => by
        rcases hf with ⟨h, _⟩ | ⟨_, h⟩
        · omega
        · exact h (hlast hh)
      obtain ⟨ob, s1, s2, s3, s4, s5⟩ := stepC ht (pre ++ A) B2 m hm hpA hB2 hl fin hf2
      have hno1 : ∀ x ∈ (pre ++ A) ++ List.replicate m (1 : Int), x ≠ 3 := fun x hx => by
        rcases List.mem_append.1 hx with hx | hx
        · exact hpA x hx
        · rw [List.eq_of_mem_replicate hx]; decide
      have hl3 : ((pre ++ A) ++ List.replicate m 1 ++ B2).length = T.length := by rw [List.length_append, List.length_append, List.length_replicate]; omega
      have hsame : ∀ p, ¬ ((pre ++ A).length ≤ p ∧ p < (pre ++ A).length + m) → ((pre ++ A) ++ List.replicate m 1 ++ B2).getD p 0 = ((pre ++ A) ++ List.replicate m 3 ++ B2).getD p 0 := fun p hh => by
        by_cases hq : p < (pre ++ A).length
        · exact getD_pre _ _ _ _ p hq
        · exact getD_post _ _ _ _ p (by simp) (by rw [List.length_replicate]; omega)
      have hfn : ((if (pre ++ A).length + m = T.length then (1 : Int) else fin) = 3 ∧ ((pre ++ A) ++ List.replicate m 1 ++ B2).getD (T.length - 1) 0 = 3) ∨ (((if (pre ++ A).length + m = T.length then (1 : Int) else fin) = 1 ∨ (if (pre ++ A).length + m = T.length then (1 : Int) else fin) = 2) ∧ ((pre ++ A) ++ List.replicate m 1 ++ B2).getD (T.length - 1) 0 ≠ 3) := by
        by_cases hh : (pre ++ A).length + m = T.length
        · rw [if_pos hh, getD_rep _ _ _ _ _ (by omega) (by omega)]
          exact .inr ⟨.inl rfl, by decide⟩
        · rw [if_neg hh, hsame _ (by omega)]
          exact hf
      obtain ⟨obs, cs, is2, fin2, g1, g2, g3, g4, g5, g6, g7, g8, g9⟩ := ih ((pre ++ A) ++ List.replicate m 1) B2 (if (pre ++ A).length + m = T.length then 1 else fin) (by omega) hno1 hl3 hfn
      refine ⟨ob :: obs, ((pre ++ A).length, m) :: cs, is2, fin2, ⟨_, _, _, s1, rfl, g1⟩, .inr ⟨s2, _, _, cs, rfl, s3, s4, s5, hm, by omega, g2⟩, g3, by rw [List.length_cons]; omega, fun c hc => ?_, fun p hp1 hp2 => ?_, fun p hp1 => ?_, fun hn => ?_, fun hn => ?_⟩
      · rcases List.mem_cons.1 hc with rfl | hc
        · exact ⟨hm, by dsimp only; omega⟩
        · exact g5 c hc
      · by_cases hh : (pre ++ A).length ≤ p ∧ p < (pre ++ A).length + m
        · exact ⟨_, List.mem_cons_self, hh⟩
        · obtain ⟨c, c1, c2⟩ := g6 p hp1 (by rw [hsame p hh]; exact hp2)
          exact ⟨c, List.mem_cons_of_mem _ c1, c2⟩
      · rw [g7 p hp1]
        by_cases hh : (pre ++ A).length ≤ p ∧ p < (pre ++ A).length + m
        · rw [getD_rep _ _ _ _ p hh.1 hh.2, getD_rep _ _ _ _ p hh.1 hh.2]
          decide
        · rw [hsame p hh]
      · by_cases hh : (pre ++ A).length + m = T.length
        · rcases hf with ⟨h, _⟩ | ⟨_, h⟩
          · exact absurd h hn
          · exact absurd (hlast hh) h
        · rw [if_neg hh] at g8
          exact g8 hn
      · by_cases hh : (pre ++ A).length + m = T.length
        · rw [if_pos hh] at g8
          exact ⟨g8 (by decide), _, List.mem_cons_self, hh⟩
        · rw [if_neg hh] at g9
          obtain ⟨q1, c, q2, q3⟩ := g9 hn
          exact ⟨q1, c, List.mem_cons_of_mem _ q2, q3⟩
/-! #### D: all acknowledged -/
def allOk (cs : List (Nat × Nat)) : List Bool := List.replicate cs.length false
theorem goesD3 {T is : List Int} {fin : Int} (hfin : fin ≠ 0) : ∀ (cs : List (Nat × Nat)), (∀ c ∈ cs, 1 ≤ c.2 ∧ c.1 + c.2 ≤ T.length) → ∃ obs v2, Goes (tells T.length cs (allOk cs)) (SF T is 3 fin) obs v2 ∧ (∀ o ∈ obs, o.f1 = 3)
  | [], _ => ⟨[], _, ⟨rfl, rfl⟩, fun o h => absurd h (by simp)⟩
  | (a, m) :: cs, h => by
    obtain ⟨obs, v2, g1, g2⟩ := goesD3 (is := is) hfin cs (fun c hc => h c (List.mem_cons_of_mem _ hc))
    have hm := h (a, m) List.mem_cons_self
    dsimp only at hm
    have hs : impl_sd.step (SF T is 3 fin) ⟨if false = true then 6 else 5, (a : Int), (m : Int), [], decide (a + m = T.length)⟩ = some (⟨0, 3, 0, [], false, false, false⟩, SF T is 3 fin) := by
      unfold impl_sd.step
      dsimp only
      rw [if_neg (by decide), if_neg (by decide), if_neg (by decide), if_neg (by decide), if_pos (by decide)]
      unfold impl_sd.heard
      rw [if_neg (by show ¬ ((a : Int) < 0 ∨ (m : Int) < 0 ∨ (T.length : Int) < (a : Int) ∨ (T.length : Int) - (a : Int) < (m : Int)); omega), if_neg (by
        show ¬ (decide (a + m = T.length) = true ∧ (fin = 0 ∨ (a : Int) + (m : Int) ≠ (T.length : Int)))
        rintro ⟨c1, c2⟩
        have := of_decide_eq_true c1
        rcases c2 with c2 | c2
        · exact hfin c2
        · omega), if_pos (by show (2 : Int) < 3; omega)]
      rfl
    refine ⟨_ :: obs, v2, ⟨_, _, _, hs, rfl, g1⟩, fun o ho => ?_⟩
    rcases List.mem_cons.1 ho with rfl | ho
    · rfl
    · exact g2 o ho
theorem told_get {is : List Int} (a m : Nat) (ham : a + m ≤ is.length) (p : Nat) (hp : p < is.length) : (impl_sd.told true is a m).getD p 0 = if a ≤ p ∧ p < a + m then 2 else is.getD p 0 := by
  have e : is = is.take a ++ (is.drop a).take m ++ is.drop (a + m) := by
    rw [List.append_assoc, ← List.drop_drop, List.take_append_drop, List.take_append_drop]
  have hA : (is.take a).length = a := by rw [List.length_take]; omega
  have hM : ((is.drop a).take m).length = m := by rw [List.length_take, List.length_drop]; omega
  have h := told_split true (is.take a) (is.drop (a + m)) ((is.drop a).take m)
  rw [← e, hA, hM] at h
  have ht : ((is.drop a).take m).map (impl_sd.turn true) = List.replicate m 2 := by
    rw [List.eq_replicate_iff]
    exact ⟨by rw [List.length_map, hM], fun b hb => by obtain ⟨x, _, rfl⟩ := List.mem_map.1 hb; rfl⟩
  rw [h, ht]
  by_cases hh : a ≤ p ∧ p < a + m
  · rw [if_pos hh, getD_rep _ _ _ _ p (by omega) (by omega)]
  · rw [if_neg hh]
    have hs : (is.take a ++ List.replicate m 2 ++ is.drop (a + m)).getD p 0 = (is.take a ++ (is.drop a).take m ++ is.drop (a + m)).getD p 0 := by
      by_cases hq : p < a
      · exact getD_pre _ _ _ _ p (by omega)
      · exact getD_post _ _ _ _ p (by rw [List.length_replicate, hM]) (by rw [List.length_replicate]; omega)
    rw [hs, ← e]
theorem goesD {T : List Int} : ∀ (cs : List (Nat × Nat)) (is : List Int) (fin : Int), is.length = T.length → (∀ c ∈ cs, 1 ≤ c.2 ∧ c.1 + c.2 ≤ T.length) → (fin = 1 ∨ fin = 2) → (∀ p, p < T.length → is.getD p 0 = 2 ∨ cov cs p) → (fin = 2 ∨ ∃ c ∈ cs, c.1 + c.2 = T.length) → cs ≠ [] →
    ∃ obs v2, Goes (tells T.length cs (allOk cs)) (SF T is 2 fin) obs v2 ∧ ∃ o os, obs = os ++ [o] ∧ o.f1 = 3
  | [], _, _, _, _, _, _, _, h => absurd rfl h
  | (a, m) :: cs, is, fin, hl, hv, hf, hc, he, _ => by
    have hm := hv (a, m) List.mem_cons_self
    dsimp only at hm
    have hv2 : ∀ c ∈ cs, 1 ≤ c.2 ∧ c.1 + c.2 ≤ T.length := fun c hc => hv c (List.mem_cons_of_mem _ hc)
    have st := stepTell (T := T) (is := is) (st := 2) (fin := fin) (Int.le_refl _) a m hm.2 (decide (a + m = T.length)) true (fun h => ⟨by omega, of_decide_eq_true h⟩) _ _ rfl rfl
    have hk : (if true = true then (5 : Int) else 6) = if false = true then 6 else 5 := by decide
    rw [hk] at st
    have hl1 : (impl_sd.told true is a m).length = T.length := by rw [impl_sd.told_len]; exact hl
    have hg := fun p (hp : p < T.length) => told_get (is := is) a m (by omega) p (by omega)
    generalize hi1 : impl_sd.told true is a m = is1 at st hl1 hg
    have hf1 : (if decide (a + m = T.length) = true then impl_sd.turn true fin else fin) = if a + m = T.length then 2 else fin := by
      by_cases h : a + m = T.length
      · rw [decide_eq_true h, if_pos rfl, if_pos h]; rfl
      · rw [decide_eq_false h, if_neg (by simp), if_neg h]
    rw [hf1] at st
    generalize hq : (if a + m = T.length then (2 : Int) else fin) = f1 at st
    have hf1b : f1 = 1 ∨ f1 = 2 := by
      by_cases h : a + m = T.length
      · rw [if_pos h] at hq; exact .inr hq.symm
      · rw [if_neg h] at hq; rw [← hq]; exact hf
    by_cases hd : f1 = 2 ∧ impl_sd.acked is1 = true
    · rw [if_pos hd] at st
      obtain ⟨obs, v2, g1, g2⟩ := goesD3 (T := T) (is := is1) (fin := f1) (by omega) cs hv2
      refine ⟨_ :: obs, v2, ⟨_, _, _, st, rfl, g1⟩, ?_⟩
      rcases List.eq_nil_or_concat obs with h | ⟨os, o, h⟩
      · exact ⟨_, [], by rw [h]; rfl, rfl⟩
      · have h' : obs = os ++ [o] := by simpa using h
        exact ⟨o, _ :: os, by rw [h']; rfl, g2 o (by rw [h']; simp)⟩
    · rw [if_neg hd] at st
      have hc2 : ∀ p, p < T.length → is1.getD p 0 = 2 ∨ cov cs p := fun p hp => by
        rw [hg p hp]
        by_cases hh : a ≤ p ∧ p < a + m
        · rw [if_pos hh]; exact .inl rfl
        · rw [if_neg hh]
          rcases hc p hp with h | ⟨c, c1, c2⟩
          · exact .inl h
          · rcases List.mem_cons.1 c1 with rfl | c1
            · exact absurd c2 hh
            · exact .inr ⟨c, c1, c2⟩
      have he2 : f1 = 2 ∨ ∃ c ∈ cs, c.1 + c.2 = T.length := by
        by_cases h : a + m = T.length
        · rw [if_pos h] at hq; exact .inl hq.symm
        · rw [if_neg h] at hq
          rcases he with h2 | ⟨c, c1, c2⟩
          · exact .inl (by omega)
          · rcases List.mem_cons.1 c1 with rfl | c1
            · exact absurd c2 h
            · exact .inr ⟨c, c1, c2⟩
      have hne : cs ≠ [] := fun e => by
        subst e
        refine hd ⟨he2.elim id (fun ⟨c, h, _⟩ => absurd h (by simp)), acked_of (fun x hx => ?_)⟩
        obtain ⟨p, hp, rfl⟩ := List.getElem_of_mem hx
        have := (hc2 p (by omega)).elim id (fun ⟨c, h, _⟩ => absurd h (by simp))
        rwa [List.getD_eq_getElem?_getD, List.getElem?_eq_getElem hp] at this
      obtain ⟨obs, v2, g1, o, os, g2, g3⟩ := goesD cs is1 f1 hl1 hv2 hf1b hc2 he2 hne
      exact ⟨_ :: obs, v2, ⟨_, _, _, st, rfl, g1⟩, o, _ :: os, by rw [g2]; rfl, g3⟩

/-! #### the phases, one behind the other -/
def ops0 (T : List Int) : List (S25) := [⟨1, 0, 0, T, false⟩, ⟨2, 0, 0, [], false⟩, ⟨3, 0, (T.length : Int), [], false⟩]
theorem goes0 {T : List Int} (h1 : 1 ≤ T.length) (ht : T.length ≤ 1000) : ∃ o1 o2 o3, Goes (ops0 T) ⟨0, 0, [], [], 0, false, 0⟩ [o1, o2, o3] (SA T 0) := by
  have s1 : impl_sd.step ⟨0, 0, [], [], 0, false, 0⟩ ⟨1, 0, 0, T, false⟩ = some (⟨0, 0, 0, [], false, false, false⟩, ⟨0, 0, T, List.replicate T.length 0, 0, false, 0⟩) := by
    unfold impl_sd.step
    dsimp only
    rw [if_pos rfl, if_pos (by omega)]
    unfold impl_sd.write
    rw [if_neg (by simp [impl_sd.opens]), if_neg (by simp; omega)]
    rfl
  have s2 : impl_sd.step ⟨0, 0, T, List.replicate T.length 0, 0, false, 0⟩ ⟨2, 0, 0, [], false⟩ = some (⟨0, 0, 0, [], false, false, false⟩, ⟨0, 0, T, List.replicate T.length 0, 0, true, 0⟩) := by
    unfold impl_sd.step
    dsimp only
    rw [if_neg (by decide), if_pos rfl]
    unfold impl_sd.finished
    rw [if_neg (by simp [impl_sd.opens])]
  have e : SA T 0 = ⟨0, (T.length : Int), T, List.replicate T.length 0, 0, true, if 0 = T.length then 1 else 0⟩ := by
    unfold SA
    rw [if_pos rfl, Nat.sub_zero]
    rfl
  have s3 : impl_sd.step ⟨0, 0, T, List.replicate T.length 0, 0, true, 0⟩ ⟨3, 0, (T.length : Int), [], false⟩ = some (⟨0, 0, 0, [], false, false, false⟩, ⟨0, (T.length : Int), T, List.replicate T.length 0, 0, true, 0⟩) := by
    unfold impl_sd.step
    dsimp only
    rw [if_neg (by decide), if_neg (by decide), if_pos rfl, if_neg (by omega), show max (0 : Int) (T.length : Int) = (T.length : Int) by omega]
  exact ⟨_, _, _, ⟨_, _, _, s1, rfl, _, _, _, s2, rfl, _, _, _, s3, rfl, rfl, by rw [e, if_neg (by omega)]⟩⟩
theorem Tell.ok {T : List Int} : ∀ {os : List (S33)} {ps : List (Nat × Nat)}, Tell T os ps → ∀ c ∈ ps, 1 ≤ c.2 ∧ c.1 + c.2 ≤ T.length
  | [], ps, h, c, hc => by rw [show ps = [] from h] at hc; exact absurd hc (by simp)
  | o :: os, ps, h, c, hc => by
    rcases h with ⟨_, h⟩ | ⟨_, a, m, qs, rfl, _, _, _, h1, h2, h⟩
    · exact Tell.ok h c hc
    · rcases List.mem_cons.1 hc with rfl | hc
      · exact ⟨h1, h2⟩
      · exact Tell.ok h c hc
theorem recvs_fine {T : List Int} (ht : T.length ≤ 1000) : ∀ (ps : List (Nat × Nat)) (bs : List Bool), (∀ c ∈ ps, 1 ≤ c.2 ∧ c.1 + c.2 ≤ T.length) → ∀ op ∈ recvs T ps bs, FineD T op
  | [], _, _, op, h => by simp [recvs] at h
  | _ :: _, [], _, op, h => by simp [recvs] at h
  | (a, m) :: ps, b :: bs, hv, op, h => by
    have hm := hv (a, m) List.mem_cons_self
    dsimp only at hm
    simp only [recvs] at h
    rcases List.mem_append.1 h with h | h
    · cases b with
      | true => simp at h
      | false =>
        rw [if_neg (by simp)] at h
        rw [List.mem_singleton.1 h]
        exact ⟨rfl, a, m, rfl, hm.1, by omega, hm.2, rfl, rfl⟩
    · exact recvs_fine ht ps bs (fun c hc => hv c (List.mem_cons_of_mem _ hc)) op h
theorem recvs_len {T : List Int} : ∀ (ps : List (Nat × Nat)) (bs : List Bool), (recvs T ps bs).length ≤ ps.length
  | [], _ => by simp [recvs]
  | _ :: _, [] => by simp [recvs]
  | (a, m) :: ps, b :: bs => by
    have := recvs_len (T := T) ps bs
    simp only [recvs, List.length_append, List.length_cons]
    cases b <;> simp <;> omega
theorem tells_len {t : Nat} : ∀ (ps : List (Nat × Nat)) (bs : List Bool), bs.length = ps.length → (tells t ps bs).length = ps.length
  | [], [], _ => rfl
  | [], _ :: _, h => absurd h (by simp)
  | _ :: _, [], h => absurd h (by simp)
  | (a, m) :: ps, b :: bs, h => by
    simp only [tells, List.length_cons]
    rw [tells_len ps bs (by simpa using h)]
theorem allOk_len (cs : List (Nat × Nat)) : (allOk cs).length = cs.length := by simp [allOk]
theorem cov_recvs {T : List Int} : ∀ (cs : List (Nat × Nat)), (∀ c ∈ cs, 1 ≤ c.2 ∧ c.1 + c.2 ≤ T.length) → ∀ p, cov cs p → ∃ op ∈ recvs T cs (allOk cs), coversD op p
  | [], _, p, h => by obtain ⟨c, hc, _⟩ := h; exact absurd hc (by simp)
  | (a, m) :: cs, hv, p, h => by
    have hm := hv (a, m) List.mem_cons_self
    dsimp only at hm
    have e : recvs T ((a, m) :: cs) (allOk ((a, m) :: cs)) = [⟨1, (a : Int), 0, (T.drop a).take m, decide (a + m = T.length)⟩] ++ recvs T cs (allOk cs) := rfl
    rw [e]
    obtain ⟨c, hc, h2⟩ := h
    rcases List.mem_cons.1 hc with rfl | hc
    · refine ⟨_, List.mem_append_left _ (List.mem_singleton.2 rfl), rfl, ?_, ?_⟩
      · show (a : Int) ≤ (p : Int); dsimp only at h2; omega
      · show (p : Int) < (a : Int) + ((((T.drop a).take m).length : Nat) : Int)
        rw [List.length_take, List.length_drop]
        dsimp only at h2
        omega
    · obtain ⟨op, ho, h3⟩ := cov_recvs cs (fun c hc => hv c (List.mem_cons_of_mem _ hc)) p ⟨c, hc, h2⟩
      exact ⟨op, List.mem_append_right _ ho, h3⟩
theorem flat_cov {T : List Int} : ∀ (ps : List (Nat × Nat)) (bs : List Bool) (s : Nat), Cons T.length s ps → bs.length = ps.length → ∀ p, s ≤ p → p < T.length → (flat ps bs).getD (p - s) 0 = 3 ∨ ∃ op ∈ recvs T ps bs, coversD op p
  | [], _, s, h, _, p, h1, h2 => by have : s = T.length := h; omega
  | (a, m) :: ps, [], _, _, h, _, _, _ => absurd h (by simp)
  | (a, m) :: ps, b :: bs, s, h, hl, p, h1, h2 => by
    obtain ⟨rfl, m1, m2, h3⟩ := h
    by_cases hp : p < a + m
    · cases b with
      | true =>
        refine .inl ?_
        simp only [flat]
        rw [List.getD_eq_getElem?_getD, List.getElem?_append_left (by rw [List.length_replicate]; omega), List.getElem?_replicate, if_pos (by omega)]
        rfl
      | false =>
        refine .inr ⟨⟨1, (a : Int), 0, (T.drop a).take m, decide (a + m = T.length)⟩, by simp [recvs], rfl, ?_, ?_⟩
        · show (a : Int) ≤ (p : Int); omega
        · show (p : Int) < (a : Int) + ((((T.drop a).take m).length : Nat) : Int)
          rw [List.length_take, List.length_drop]
          omega
    · rcases flat_cov ps bs (a + m) h3 (by simpa using hl) p (by omega) h2 with h | ⟨op, ho, h4⟩
      · refine .inl ?_
        simp only [flat]
        rw [List.getD_eq_getElem?_getD, List.getElem?_append_right (by rw [List.length_replicate]; omega), List.length_replicate, show p - a - m = p - (a + m) by omega, ← List.getD_eq_getElem?_getD]
        exact h
      · exact .inr ⟨op, by simp only [recvs]; exact List.mem_append_right _ ho, h4⟩
theorem phases {T : List Int} (h1 : 1 ≤ T.length) (ht : T.length ≤ 600) (ns : List Int) (hn : ns.length = 60) (hb : ∀ n ∈ ns, 10 ≤ n ∧ n ≤ 1500) :
    ∃ o1 o2 o3 obsA ps vA, Goes (ops0 T ++ ns.map pl) ⟨0, 0, [], [], 0, false, 0⟩ ([o1, o2, o3] ++ obsA) vA ∧ Tell T obsA ps ∧ obsA.length = 60 ∧ ps.length ≤ 60 ∧
      ∀ bs : List Bool, bs.length = ps.length → ∃ obsB obsC cs vC, Goes (tells T.length ps bs ++ List.replicate 60 (pl 1500)) vA (obsB ++ obsC) vC ∧ obsB.length = ps.length ∧ obsC.length = 60 ∧ Tell T obsC cs ∧ cs.length ≤ 60 ∧ (∀ p, p < T.length → (∃ op ∈ recvs T ps bs, coversD op p) ∨ cov cs p) ∧
        ∃ obsD vD, Goes (tells T.length cs (allOk cs)) vC obsD vD ∧ obsD.length = cs.length ∧ ∃ o os, obsC ++ obsD = os ++ [o] ∧ o.f1 = 3 := by
  obtain ⟨o1, o2, o3, g0⟩ := goes0 (T := T) h1 (by omega)
  obtain ⟨obsA, ps, gA, tA, cA, lA⟩ := goesA h1 ns 0 hb (Nat.zero_le _) (by omega)
  have hlA := gA.len
  rw [List.length_map, hn] at hlA
  refine ⟨o1, o2, o3, obsA, ps, _, g0.append gA, tA, hlA, by omega, fun bs hbs => ?_⟩
  have hps : ps ≠ [] := fun e => by rw [e] at cA; have : 0 = T.length := cA; omega
  have eSA : SA T T.length = SF T ([] ++ List.replicate (T.length - 0) 1) 2 1 := by
    unfold SA SF
    rw [if_neg (by omega), if_pos rfl, if_pos rfl, Nat.sub_self, Nat.sub_zero]
    simp
  obtain ⟨obsB, is2, fin, gB, eB, lB, fB⟩ := goesB ps bs 0 [] cA hbs rfl hps
  rw [List.nil_append] at eB
  rw [← eSA] at gB
  have hlB := gB.len
  rw [tells_len ps bs hbs] at hlB
  have hcov : ∀ p, p < T.length → is2.getD p 0 = 3 ∨ ∃ op ∈ recvs T ps bs, coversD op p := fun p hp => by
    have := flat_cov ps bs 0 cA hbs p (Nat.zero_le _) hp
    rw [← eB] at this
    exact this
  have hmem : ∀ x ∈ is2, x = 2 ∨ x = 3 := fun x hx => flat_mem ps bs x (by rw [← eB]; exact hx)
  by_cases hd : fin = 2 ∧ impl_sd.acked is2 = true
  · rw [if_pos hd] at gB
    obtain ⟨obsC, gC, tC, sC⟩ := goesN (T := T) (is := is2) (st := 3) (fin := fin) (.inl (by decide)) 60
    have hlC := gC.len
    rw [List.length_replicate] at hlC
    refine ⟨obsB, obsC, [], _, gB.append gC, hlB, hlC, tC, by simp, fun p hp => ?_, [], _, ⟨rfl, rfl⟩, rfl, ?_⟩
    · rcases hcov p hp with h | h
      · have := acked_no hd.2 _ (List.getElem_mem (show p < is2.length by omega))
        rw [List.getD_eq_getElem?_getD, List.getElem?_eq_getElem (by omega)] at h
        have h' : is2[p] = 3 := h
        omega
      · exact .inl h
    · rw [List.append_nil]
      rcases List.eq_nil_or_concat obsC with h | ⟨os, o, h⟩
      · rw [h] at hlC; exact absurd hlC (by simp)
      · have h' : obsC = os ++ [o] := by simpa using h
        exact ⟨o, os, h', sC o (by rw [h']; simp)⟩
  · rw [if_neg hd] at gB
    obtain ⟨obsC, cs, is3, fin3, gC, tC, lC, kC, vC, c1, c2, c3, c4⟩ := goesC h1 (by omega) 60 [] is2 fin (by have := ends_flat ps bs; rw [eB]; omega) (fun x h => absurd h (by simp)) lB (by
      rw [List.nil_append]
      rcases fB with ⟨q1, q2⟩ | ⟨q1, q2⟩
      · exact .inr ⟨.inr q1, by rw [q2]; decide⟩
      · exact .inl ⟨q1, q2⟩)
    rw [List.nil_append] at gC c1 c2
    have hlC := gC.len
    rw [List.length_replicate] at hlC
    have h23 : ∀ p, p < T.length → is2.getD p 0 = 2 ∨ is2.getD p 0 = 3 := fun p hp => by
      rw [List.getD_eq_getElem?_getD, List.getElem?_eq_getElem (by omega)]
      exact hmem _ (List.getElem_mem (show p < is2.length by omega))
    have hf3 : fin3 = 1 ∨ fin3 = 2 := by
      rcases fB with ⟨q1, _⟩ | ⟨q1, _⟩
      · exact .inr (by rw [c3 (by omega)]; exact q1)
      · exact .inl (c4 q1).1
    have hseg : fin3 = 2 ∨ ∃ c ∈ cs, c.1 + c.2 = T.length := by
      rcases fB with ⟨q1, _⟩ | ⟨q1, _⟩
      · exact .inl (by rw [c3 (by omega)]; exact q1)
      · exact .inr (c4 q1).2
    have hcs : cs ≠ [] := fun e => by
      subst e
      have hall : ∀ x ∈ is2, x = 2 := fun x hx => by
        obtain ⟨p, hp, rfl⟩ := List.getElem_of_mem hx
        rcases hmem _ hx with h | h
        · exact h
        · obtain ⟨c, hc, _⟩ := c1 p (by omega) (by rw [List.getD_eq_getElem?_getD, List.getElem?_eq_getElem hp]; exact h)
          exact absurd hc (by simp)
      refine hd ⟨?_, acked_of hall⟩
      rcases fB with ⟨q1, _⟩ | ⟨q1, q2⟩
      · exact q1
      · obtain ⟨_, c, hc, _⟩ := c4 q1
        exact absurd hc (by simp)
    obtain ⟨obsD, vD, gD, o, os, e1, e2⟩ := goesD cs is3 fin3 lC vC hf3 (fun p hp => by
      rcases h23 p hp with h | h
      · refine .inl ?_
        rw [c2 p hp, if_neg (by rw [h]; decide)]
        exact h
      · exact .inr (c1 p hp h)) hseg hcs
    have hlD := gD.len
    rw [tells_len cs _ (allOk_len cs)] at hlD
    refine ⟨obsB, obsC, cs, _, gB.append gC, hlB, hlC, tC, kC, fun p hp => ?_, obsD, vD, gD, hlD, o, obsC ++ os, by rw [e1, List.append_assoc], e2⟩
    rcases hcov p hp with h | h
    · exact .inr (c1 p hp h)
    · exact .inl h

theorem copyL (l : List Int) (h : l.length < 100000000000) : laws_copied.f l = some l := by
  unfold laws_copied.f
  simp only [Option.bind_some, List.nil_append, List.length_nil]
  rw [if_pos (by omega)]
theorem sameSelf (l : List Int) : laws_same.f l l = some true := by
  unfold laws_same.f
  simp
theorem rdBy {l : List Int} (h : ∀ x ∈ l, 0 ≤ x ∧ x ≤ 255) (i : Int) : 0 ≤ rd l i ∧ rd l i ≤ 255 := by
  unfold rd
  rw [List.getD_eq_getElem?_getD]
  cases hq : l[i.toNat]? with
  | none => simp
  | some x => exact h x (List.mem_of_getElem? hq)
theorem at_is (more : List Int) (i n : Int) (h0 : 0 ≤ i) (h1 : i ≤ 1000000) (hn : 1 ≤ n) (hn2 : n ≤ 1000000) (hm : more.length ≤ 1048576) (hx : ∀ x ∈ more, 0 ≤ x ∧ x ≤ 255) : ∃ r, laws_at.f more i n = some r ∧ 0 ≤ r ∧ r < n := by
  unfold laws_at.f
  by_cases hn1 : n ≤ 1
  · rw [if_pos hn1]
    exact ⟨0, rfl, by omega, by omega⟩
  rw [if_neg hn1]
  have em : ∀ z : Int, 0 ≤ z → 0 ≤ Int.tmod z n ∧ Int.tmod z n < n := fun z hz => by
    rw [Int.tmod_eq_emod_of_nonneg hz]
    exact ⟨Int.emod_nonneg _ (by omega), Int.emod_lt_of_pos _ (by omega)⟩
  by_cases h : (more.length : Int) = 0
  · rw [if_pos h, if_neg (by omega), w64 (by omega) (by omega)]
    exact ⟨_, rfl, em _ (by omega)⟩
  · have hh : ∀ a : Int, 0 ≤ a → 0 ≤ Int.tmod a (more.length : Int) ∧ Int.tmod a (more.length : Int) < (more.length : Int) := by
      intro a ha
      rw [Int.tmod_eq_emod_of_nonneg ha]
      exact ⟨Int.emod_nonneg _ h, Int.emod_lt_of_pos _ (by omega)⟩
    rw [if_neg h, w64 (x := i + 1) (by omega) (by omega)]
    have q1 := hh i (by omega)
    have q2 := hh (i + 1) (by omega)
    rw [if_pos q1.1, if_pos q1.2, if_pos q2.1, if_pos q2.2, if_neg (by omega)]
    have b1 := rdBy hx (Int.tmod i (more.length : Int))
    have b2 := rdBy hx (Int.tmod (i + 1) (more.length : Int))
    have b3 : 0 ≤ Int.tdiv i (more.length : Int) ∧ Int.tdiv i (more.length : Int) ≤ 1000000 := by
      rw [Int.tdiv_eq_ediv_of_nonneg (by omega)]
      exact ⟨Int.ediv_nonneg (by omega) (by omega), Int.le_trans (Int.ediv_le_self _ (by omega)) (by omega)⟩
    generalize rd more (Int.tmod i (more.length : Int)) = x1 at b1 ⊢
    generalize rd more (Int.tmod (i + 1) (more.length : Int)) = x2 at b2 ⊢
    generalize Int.tdiv i (more.length : Int) = x3 at b3 ⊢
    rw [w64 (x := x1) (by omega) (by omega), w64 (x := x2) (by omega) (by omega), w64 (x := x3) (by omega) (by omega), w64 (x := x1 * 31) (by omega) (by omega), w64 (x := x1 * 31 + x2) (by omega) (by omega), w64 (x := x1 * 31 + x2 + x3) (by omega) (by omega)]
    exact ⟨_, rfl, em _ (by omega)⟩
theorem mn_is (a b : Int) : (mn a b = a ∧ a ≤ b) ∨ (mn a b = b ∧ b ≤ a) := by unfold mn; split <;> omega

/-! #### the law's loops -/
theorem rdSO (pre : List (S33)) (o : S33) (os : List (S33)) : rd_T33 (pre ++ o :: os) (pre.length : Int) = o := by
  unfold rd_T33
  rw [Int.toNat_natCast, List.getD_eq_getElem?_getD, List.getElem?_append_right (Nat.le_refl _), Nat.sub_self]
  rfl
theorem rdSOl (os : List (S33)) (o : S33) : rd_T33 (os ++ [o]) (((os ++ [o]).length : Int) - 1) = o := by
  have e : (((os ++ [o]).length : Int) - 1) = (os.length : Int) := by rw [List.length_append]; simp
  rw [e]
  exact rdSO os o []
theorem rdROl (os : List (S39)) (o : S39) : rd_T39 (os ++ [o]) (((os ++ [o]).length : Int) - 1) = o := by
  have e : (((os ++ [o]).length : Int) - 1) = (os.length : Int) := by rw [List.length_append]; simp
  rw [e]
  unfold rd_T39
  rw [Int.toNat_natCast, List.getD_eq_getElem?_getD, List.getElem?_append_right (Nat.le_refl _), Nat.sub_self]
  rfl
theorem l1_is {more T : List Int} (hm : more.length ≤ 1048576) (hx : ∀ x ∈ more, 0 ≤ x ∧ x ≤ 255) (ht : T.length ≤ 1000) : ∀ (os pre : List (S33)) (ps : List (Nat × Nat)) (x6 : List (S25)) (x10 : List (S34)), Tell T os ps → (pre ++ os).length ≤ 1000 → x6.length + os.length ≤ 1000 → x10.length + os.length ≤ 1000 →
    (∀ bs : List Bool, bs.length = ps.length → Ev (fun k => laws_FnPipe.l2 k T (x6 ++ tells T.length ps bs) (x10 ++ recvs T ps bs) ((x6 ++ tells T.length ps bs).length : Int) 0) true) →
    Ev (fun k => laws_FnPipe.l1 k more T x6 (pre ++ os) x10 (pre.length : Int)) true
  | [], pre, ps, x6, x10, ht2, hl, h6, h10, h => by
    have e : ps = [] := ht2
    subst e
    have := h [] rfl
    simp only [tells, recvs, List.append_nil] at this
    refine evSucc ?_
    simp only [laws_FnPipe.l1]
    exact evNeg (by rw [List.append_nil]; omega) this
  | o :: os, pre, ps, x6, x10, ht2, hl, h6, h10, h => by
    have happ : pre ++ o :: os = (pre ++ [o]) ++ os := by simp
    have hlen : (pre ++ o :: os).length = pre.length + os.length + 1 := by simp; omega
    have hnx : ((pre ++ [o]).length : Int) = wrap64 ((pre.length : Int) + 1) := by rw [w64 (by omega) (by omega), List.length_append]; simp
    have hle : ((pre ++ [o]) ++ os).length ≤ 1000 := by rw [← happ]; exact hl
    rw [List.length_cons] at h6 h10
    refine evSucc ?_
    simp only [laws_FnPipe.l1]
    rw [rdSO]
    refine evPos (by rw [hlen]; omega) (evPos (by omega) ?_)
    rcases ht2 with ⟨f4, ht3⟩ | ⟨f4, a, m, qs, rfl, f2, f3, f5, m1, m2, ht3⟩
    · refine evNeg (by rw [f4]; simp) ?_
      have ih := l1_is hm hx ht os (pre ++ [o]) ps x6 x10 ht3 hle (by omega) (by omega) h
      rw [← happ, hnx] at ih
      exact ih
    · have hl3 : ((T.drop a).take m).length = m := by rw [List.length_take, List.length_drop]; omega
      obtain ⟨r, hr, r0, r1⟩ := at_is more (2 * (pre.length : Int)) 3 (by omega) (by omega) (by omega) (by omega) hm hx
      have hr' : laws_at.f more (wrap64 (2 * (pre.length : Int))) 3 = some r := by rw [w64 (by omega) (by omega)]; exact hr
      refine evPos f4 (evPut hr' ?_)
      rw [f2, f3, f5, hl3]
      refine evSplit (fun e0 => evPos (by omega) ?_) (fun e0 => evPut (copyL _ (by omega)) (evPos (by omega) (evPos (by omega) ?_)))
      · have ih := l1_is hm hx ht os (pre ++ [o]) qs (x6 ++ [⟨6, (a : Int), (m : Int), [], decide (a + m = T.length)⟩]) x10 ht3 hle (by rw [List.length_append]; simp; omega) (by omega) (fun bs hb => by
          have := h (true :: bs) (by simp [hb])
          simp only [tells, recvs, if_true, List.nil_append] at this
          rw [List.append_assoc]
          exact this)
        rw [← happ, hnx] at ih
        exact ih
      · have ih := l1_is hm hx ht os (pre ++ [o]) qs (x6 ++ [⟨5, (a : Int), (m : Int), [], decide (a + m = T.length)⟩]) (x10 ++ [⟨1, (a : Int), 0, (T.drop a).take m, decide (a + m = T.length)⟩]) ht3 hle (by rw [List.length_append]; simp; omega) (by rw [List.length_append]; simp; omega) (fun bs hb => by
          have := h (false :: bs) (by simp [hb])
          simp only [tells, recvs, Bool.false_eq_true, if_false] at this
          rw [List.append_assoc, List.append_assoc]
          exact this)
        rw [← happ, hnx] at ih
        exact ih
theorem l3_is {T : List Int} (ht : T.length ≤ 1000) : ∀ (os pre : List (S33)) (cs : List (Nat × Nat)) (x6 : List (S25)) (x10 : List (S34)), Tell T os cs → (pre ++ os).length ≤ 1000 → x6.length + os.length ≤ 1000 → x10.length + os.length ≤ 1000 →
    (∀ (x8 : List (S33)), Ev (fun k => laws_FnPipe.l3 k T (x6 ++ tells T.length cs (allOk cs)) (x10 ++ recvs T cs (allOk cs)) x8 (x8.length : Int)) true) →
    Ev (fun k => laws_FnPipe.l3 k T x6 x10 (pre ++ os) (pre.length : Int)) true
  | [], pre, cs, x6, x10, ht2, hl, h6, h10, h => by
    have e : cs = [] := ht2
    subst e
    have := h pre
    simp only [allOk, List.length_nil, List.replicate_zero, tells, recvs, List.append_nil] at this
    rw [List.append_nil]
    exact this
  | o :: os, pre, cs, x6, x10, ht2, hl, h6, h10, h => by
    have happ : pre ++ o :: os = (pre ++ [o]) ++ os := by simp
    have hlen : (pre ++ o :: os).length = pre.length + os.length + 1 := by simp; omega
    have hnx : ((pre ++ [o]).length : Int) = wrap64 ((pre.length : Int) + 1) := by rw [w64 (by omega) (by omega), List.length_append]; simp
    have hle : ((pre ++ [o]) ++ os).length ≤ 1000 := by rw [← happ]; exact hl
    rw [List.length_cons] at h6 h10
    refine evSucc ?_
    simp only [laws_FnPipe.l3]
    rw [rdSO]
    refine evPos (by rw [hlen]; omega) (evPos (by omega) ?_)
    rcases ht2 with ⟨f4, ht3⟩ | ⟨f4, a, m, qs, rfl, f2, f3, f5, m1, m2, ht3⟩
    · refine evNeg (by rw [f4]; simp) ?_
      have ih := l3_is ht os (pre ++ [o]) cs x6 x10 ht3 hle (by omega) (by omega) h
      rw [← happ, hnx] at ih
      exact ih
    · have hl3 : ((T.drop a).take m).length = m := by rw [List.length_take, List.length_drop]; omega
      refine evPos f4 ?_
      rw [f2, f3, f5, hl3]
      refine evPut (copyL _ (by omega)) (evPos (by omega) (evPos (by omega) ?_))
      have ih := l3_is ht os (pre ++ [o]) qs (x6 ++ [⟨5, (a : Int), (m : Int), [], decide (a + m = T.length)⟩]) (x10 ++ [⟨1, (a : Int), 0, (T.drop a).take m, decide (a + m = T.length)⟩]) ht3 hle (by rw [List.length_append]; simp; omega) (by rw [List.length_append]; simp; omega) (fun x8 => by
        have := h x8
        have e1 : allOk ((a, m) :: qs) = false :: allOk qs := rfl
        rw [e1] at this
        simp only [tells, recvs, Bool.false_eq_true, if_false] at this
        rw [List.append_assoc, List.append_assoc]
        exact this)
      rw [← happ, hnx] at ih
      exact ih
theorem l0_is {more T : List Int} (hm : more.length ≤ 1048576) (hx : ∀ x ∈ more, 0 ≤ x ∧ x ≤ 255)
    (h : ∀ ns : List Int, ns.length = 60 → (∀ n ∈ ns, 10 ≤ n ∧ n ≤ 1500) → Ev (fun k => laws_FnPipe.l0 k more T (ops0 T ++ ns.map pl) 60) true) :
    ∀ (d : Nat) (ns : List Int), ns.length + d = 60 → (∀ n ∈ ns, 10 ≤ n ∧ n ≤ 1500) → Ev (fun k => laws_FnPipe.l0 k more T (ops0 T ++ ns.map pl) (ns.length : Int)) true
  | 0, ns, hl, hb => by
    have := h ns (by omega) hb
    rw [show ((ns.length : Nat) : Int) = 60 by omega]
    exact this
  | d + 1, ns, hl, hb => by
    obtain ⟨r, hr, r0, r1⟩ := at_is more (ns.length : Int) 30 (by omega) (by omega) (by omega) (by omega) hm hx
    have ih := l0_is hm hx h d (ns ++ [10 + r]) (by rw [List.length_append]; simp; omega) (fun n hn => by
      rcases List.mem_append.1 hn with hn | hn
      · exact hb n hn
      · rw [List.mem_singleton.1 hn]; omega)
    have e1 : (((ns ++ [10 + r]).length : Nat) : Int) = wrap64 ((ns.length : Int) + 1) := by rw [w64 (by omega) (by omega), List.length_append]; simp
    have e2 : ops0 T ++ (ns ++ [10 + r]).map pl = (ops0 T ++ ns.map pl) ++ [⟨4, 0, wrap64 (10 + r), [], false⟩] := by rw [w64 (by omega) (by omega), List.map_append, ← List.append_assoc]; rfl
    rw [e1, e2] at ih
    have h0 : (ops0 T ++ ns.map pl).length = 3 + ns.length := by rw [List.length_append, List.length_map]; rfl
    refine evSucc ?_
    simp only [laws_FnPipe.l0]
    exact evPos (by omega) (evPut hr (evPos (by omega) ih))
theorem l2_is {T : List Int} (x6 : List (S25)) (h6 : x6.length ≤ 1000) (x10 : List (S34)) (x14 : Int) (h : Ev (fun k => laws_FnPipe.l2 k T (x6 ++ List.replicate 60 (pl 1500)) x10 x14 60) true) :
    ∀ (d i : Nat), i + d = 60 → Ev (fun k => laws_FnPipe.l2 k T (x6 ++ List.replicate i (pl 1500)) x10 x14 (i : Int)) true
  | 0, i, hi => by
    have e : i = 60 := by omega
    subst e
    exact h
  | d + 1, i, hi => by
    have ih := l2_is x6 h6 x10 x14 h d (i + 1) (by omega)
    have e1 : (((i + 1 : Nat)) : Int) = wrap64 ((i : Int) + 1) := by rw [w64 (by omega) (by omega)]; omega
    rw [List.replicate_succ', ← List.append_assoc, e1] at ih
    have h0 : (x6 ++ List.replicate i (pl 1500)).length = x6.length + i := by rw [List.length_append, List.length_replicate]
    refine evSucc ?_
    simp only [laws_FnPipe.l2]
    exact evPos (by omega) (evPos (by omega) ih)
theorem FnPipe : laws_FnPipe.Pure := by
  intro l0 l1 _ _ hb _ _ hb1
  have hx : ∀ x ∈ l1, 0 ≤ x ∧ x ≤ 255 := fun x hx => wfB (hb1 x hx)
  refine evEnds ?_
  unfold laws_FnPipe.f
  refine evSplit (fun _ => evSucc ?_) (fun hlen => evSucc ?_)
  · simp only [laws_FnPipe.j0]
    exact evPos (by first | trivial | rfl) (Ev.now _)
  simp only [laws_FnPipe.j0]
  refine evSplit (fun _ => Ev.now _) (fun hlen1 => ?_)
  have hm : l1.length ≤ 1048576 := by
    have := mt (fun h => decide_eq_true (p := (l1.length : Int) > 1048576) h) hlen1
    omega
  obtain ⟨j, hj⟩ : ∃ j : Int, j = mn (l0.length : Int) 500 := ⟨_, rfl⟩
  have hj2 := mn_is (l0.length : Int) 500
  rw [← hj] at hj2 ⊢
  obtain ⟨T, hT⟩ : ∃ T, T = ([1, 2, 3] : List Int) ++ l0.take j.toNat := ⟨_, rfl⟩
  have hTl : T.length = 3 + j.toNat := by rw [hT, List.length_append, List.length_take]; simp; omega
  refine evPut rfl (evPos (by omega) (evPos (by omega) (evPos (by rw [List.length_take]; simp; omega) (evPut rfl ?_))))
  rw [← hT]
  have hw : ∀ x ∈ T, (Lit.int .u8 x).wf = true := fun x hx => by
    rw [hT] at hx
    rcases List.mem_append.1 hx with hx | hx
    · simp only [List.mem_cons, List.mem_nil_iff, or_false] at hx
      rcases hx with rfl | rfl | rfl <;> decide +kernel
    · exact hb x (List.mem_of_mem_take hx)
  refine evPut (copyL _ (by omega)) ?_
  have h00 := l0_is (more := l1) (T := T) hm hx (fun ns hn hbn => ?_) 60 [] (by simp) (fun n h => absurd h (by simp))
  · exact h00
  obtain ⟨o1, o2, o3, obsA, ps, vA, gA, tA, lA, kA, hrest⟩ := phases (T := T) (by omega) (by omega) ns hn hbn
  have hopsA : (ops0 T ++ ns.map pl).length = 63 := by rw [List.length_append, List.length_map, hn]; rfl
  refine evSucc ?_
  simp only [laws_FnPipe.l0]
  refine evNeg (by omega) (evBind (a := ([o1, o2, o3] ++ obsA, 0)) ⟨0, fun k _ => sendRun_is gA (by omega) k⟩ (evPos rfl (evSucc ?_)))
  simp only [laws_FnPipe.j2]
  refine evNeg (by
    have e : ((([o1, o2, o3] ++ obsA).length : Int) != ((ops0 T ++ ns.map pl).length : Int)) = false := by
      rw [hopsA, List.length_append, lA]; rfl
    rw [e]; simp) ?_
  refine l1_is hm hx (by omega) obsA [o1, o2, o3] ps (ops0 T ++ ns.map pl) [] tA (by rw [List.length_append, lA]; simp) (by omega) (by rw [lA]; simp) (fun bs hbs => ?_)
  obtain ⟨obsB, obsC, cs, vC, gC, lB, lC, tC, kC, hcov, obsD, vD, gD, lD, o, os, eo, ho⟩ := hrest bs hbs
  have ltl := tells_len (t := T.length) ps bs hbs
  have lrv := recvs_len (T := T) ps bs
  obtain ⟨x6, hx6⟩ : ∃ x, x = (ops0 T ++ ns.map pl) ++ tells T.length ps bs := ⟨_, rfl⟩
  have lx6 : x6.length = 63 + ps.length := by rw [hx6, List.length_append, hopsA, ltl]
  rw [← hx6, List.nil_append]
  have g2 : Goes (x6 ++ List.replicate 60 (pl 1500)) ⟨0, 0, [], [], 0, false, 0⟩ (([o1, o2, o3] ++ obsA) ++ (obsB ++ obsC)) vC := by
    rw [hx6, List.append_assoc]
    exact gA.append gC
  have lx6b : (x6 ++ List.replicate 60 (pl 1500)).length = 123 + ps.length := by rw [List.length_append, List.length_replicate]; omega
  have h2 := l2_is (T := T) x6 (by omega) (recvs T ps bs) (x6.length : Int) ?_ 60 0 (by omega)
  · simp only [List.replicate_zero, List.append_nil] at h2
    exact h2
  refine evSucc ?_
  simp only [laws_FnPipe.l2]
  refine evNeg (by omega) (evBind (a := (([o1, o2, o3] ++ obsA) ++ (obsB ++ obsC), 0)) ⟨0, fun k _ => sendRun_is g2 (by omega) k⟩ (evPos rfl (evSucc ?_)))
  simp only [laws_FnPipe.j5]
  have lo2 := g2.len
  refine evNeg (by
    have e : (((([o1, o2, o3] ++ obsA) ++ (obsB ++ obsC)).length : Int) != ((x6 ++ List.replicate 60 (pl 1500)).length : Int)) = false := by rw [lo2]; simp
    rw [e]; simp) ?_
  have epre : ([o1, o2, o3] ++ obsA) ++ (obsB ++ obsC) = (([o1, o2, o3] ++ obsA) ++ obsB) ++ obsC := by simp
  have lpre : (([o1, o2, o3] ++ obsA) ++ obsB).length = x6.length := by rw [List.length_append, List.length_append, lA, lB, lx6]; rfl
  rw [epre, ← lpre]
  refine l3_is (by omega) obsC _ cs _ _ tC (by rw [List.length_append]; omega) (by omega) (by omega) (fun x8 => ?_)
  -- the end
  have lcs := tells_len (t := T.length) cs (allOk cs) (allOk_len cs)
  have lrc := recvs_len (T := T) cs (allOk cs)
  have g3 : Goes ((x6 ++ List.replicate 60 (pl 1500)) ++ tells T.length cs (allOk cs)) ⟨0, 0, [], [], 0, false, 0⟩ ((([o1, o2, o3] ++ obsA) ++ (obsB ++ obsC)) ++ obsD) vD := g2.append gD
  have e3 : (([o1, o2, o3] ++ obsA) ++ (obsB ++ obsC)) ++ obsD = ((([o1, o2, o3] ++ obsA) ++ obsB) ++ os) ++ [o] := by
    have : (([o1, o2, o3] ++ obsA) ++ (obsB ++ obsC)) ++ obsD = (([o1, o2, o3] ++ obsA) ++ obsB) ++ (obsC ++ obsD) := by simp
    rw [this, eo]; simp
  rw [e3] at g3
  have lo3 := g3.len
  have lx6c : ((x6 ++ List.replicate 60 (pl 1500)) ++ tells T.length cs (allOk cs)).length = 123 + ps.length + cs.length := by rw [List.length_append, lx6b, lcs]
  have hfine : ∀ op ∈ recvs T ps bs ++ recvs T cs (allOk cs), FineD T op := fun op h => by
    rcases List.mem_append.1 h with h | h
    · exact recvs_fine (by omega) ps bs (Tell.ok tA) op h
    · exact recvs_fine (by omega) cs _ (Tell.ok tC) op h
  obtain ⟨out, la, r1, r2, r3, r4⟩ := runRecv (T := T) (by omega) (by omega) hw (recvs T ps bs ++ recvs T cs (allOk cs)) hfine (fun p hp => by
    rcases hcov p hp with ⟨op, h1, h2⟩ | h
    · exact ⟨op, List.mem_append_left _ h1, h2⟩
    · obtain ⟨op, h1, h2⟩ := cov_recvs cs (Tell.ok tC) p h
      exact ⟨op, List.mem_append_right _ h1, h2⟩) (by rw [List.length_append]; omega)
  refine evSucc ?_
  simp only [laws_FnPipe.l3]
  refine evNeg (by omega) (evBind (a := (((([o1, o2, o3] ++ obsA) ++ obsB) ++ os) ++ [o], 0)) ⟨0, fun k _ => sendRun_is g3 (by omega) k⟩ (evPos (by rw [List.length_append]; omega) (evPut rfl (evBind r1 ?_))))
  have q1 : (((out ++ [la]).length : Nat) : Int) = (((recvs T ps bs ++ recvs T cs (allOk cs)) ++ [(⟨3, 0, 4611686018427387903, [], false⟩ : S34)]).length : Int) := by
    have e1 : (out ++ [la]).length = out.length + 1 := by simp
    have e2 : ((recvs T ps bs ++ recvs T cs (allOk cs)) ++ [(⟨3, 0, 4611686018427387903, [], false⟩ : S34)]).length = (recvs T ps bs ++ recvs T cs (allOk cs)).length + 1 := by rw [List.length_append]; rfl
    rw [e1, e2, r2]
  have q2 : wrap64 (((out ++ [la]).length : Int) - 1) = ((out ++ [la]).length : Int) - 1 := by
    have : (out ++ [la]).length ≤ 1000 := by rw [List.length_append, r2, List.length_append]; simp; omega
    exact w64 (by omega) (by omega)
  have q3 : 1 ≤ (out ++ [la]).length := by rw [List.length_append]; simp
  have q4 : wrap64 ((((((([o1, o2, o3] ++ obsA) ++ obsB) ++ os) ++ [o]).length : Nat) : Int) - 1) = (((((([o1, o2, o3] ++ obsA) ++ obsB) ++ os) ++ [o]).length : Nat) : Int) - 1 := w64 (by omega) (by omega)
  have q5 : 1 ≤ (((([o1, o2, o3] ++ obsA) ++ obsB) ++ os) ++ [o]).length := by rw [List.length_append]; simp
  dsimp only
  rw [q2, q4, rdROl, rdSOl, r3, ho]
  exact evPos rfl (evPos rfl (evPos q1 (evPos (by rw [lo3]) (evPos (by omega) (evPos (by omega) (evPos r4 (evPut (sameSelf _) (evPos rfl (evPos (by omega) (evPos (by omega) (Ev.now _)))))))))))

end Go.Proofs.Ytkmopmoglgcamaa.Pure
