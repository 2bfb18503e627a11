/- A drawn text, cut into pieces that come to the receiving part in a drawn order, some twice, with reads between, is read from its beginning on, and all of it when all has come; no condition. -/
import Derived.Test.YtmhelhfkicajdaaPFnRecvPrefixx0
import Derived.Test.YtmhelhfkicajdaaPFnRecvPrefixx1
import Derived.Test.YtmhelhfkicajdaaPFnRecvPrefixx2
import Derived.Test.YtmhelhfkicajdaaPFnRecvPrefixx3
import Derived.Test.YtmhelhfkicajdaaPFnRecvPrefixx4
import Derived.Test.YtmhelhfkicajdaaPFnRecvPrefixx5
import Derived.Laws.BitsLemmas
import Derived.Laws.BitsAllLaws
set_option linter.unusedVariables false
set_option linter.unusedSimpArgs false
set_option maxRecDepth 4000
namespace Go.Proofs.Ytmhelhfkicajdaa.Pure
open Go.RowKit Go.Proofs.Ytmhelhfkicajdaa.PFnRecvPrefix Go.Proofs.YtmhelhfkicajdaaW.PrintWords Go.Proofs.YtmhelhfkicajdaaW.PrintLast Go.Proofs.YtmhelhfkicajdaaW.PrintMore

/-! ### tools: what a printed function comes to -/
theorem evSucc {α : Type} {g : Nat → Option α} {r : α} (h : Ev (fun k => g (k + 1)) r) : Ev g r := Ev.step (fun _ => rfl) h
theorem evPos {α : Type} {c : Prop} {dc : Decidable c} {a b : Nat → Option α} {r : α} (h : c) (e : Ev a r) : Ev (fun k => if c then a k else b k) r :=
  Ev.congr (fun _ => if_pos h) e
theorem evNeg {α : Type} {c : Prop} {dc : Decidable c} {a b : Nat → Option α} {r : α} (h : ¬ c) (e : Ev b r) : Ev (fun k => if c then a k else b k) r :=
  Ev.congr (fun _ => if_neg h) e
theorem evSplit {α : Type} {c : Prop} {dc : Decidable c} {a b : Nat → Option α} {r : α} (h : c → Ev a r) (h' : ¬ c → Ev b r) : Ev (fun k => if c then a k else b k) r := by
  by_cases hc : c
  · exact evPos hc (h hc)
  · exact evNeg hc (h' hc)
theorem evBind {α β : Type} {g : Nat → Option α} {f : Nat → α → Option β} {a : α} {r : β} (h : Ev g a) (k : Ev (fun n => f n a) r) : Ev (fun n => (g n).bind (f n)) r := Ev.bind h k
theorem evPut {α β : Type} {o : Option α} {f : Nat → α → Option β} {a : α} {r : β} (h : o = some a) (k : Ev (fun n => f n a) r) : Ev (fun n => o.bind (f n)) r :=
  Ev.congr (fun _ => by rw [h]; rfl) k
theorem evNow {α : Type} {r r' : α} (h : r = r') : Ev (fun _ => some r) r' := h ▸ Ev.now r
theorem evOf {α : Type} {o : Option α} {r : α} (h : o = some r) : Ev (fun _ => o) r := ⟨0, fun _ _ => h⟩
theorem evEnds {α : Type} {g : Nat → Option α} {r : α} (h : Ev g r) : ∃ k, g k = some r := Ev.rounds h
theorem w64 {x : Int} (h : -9223372036854775808 ≤ x) (h' : x ≤ 9223372036854775807) : wrap64 x = x := by unfold wrap64; omega
theorem w64succ (i : Nat) (h : i < 4611686018427387904) : wrap64 ((i : Int) + 1) = ((i + 1 : Nat) : Int) := by unfold wrap64; omega
theorem wfI {x : Int} (h : (Lit.int .i64 x).wf = true) : -9223372036854775808 ≤ x ∧ x ≤ 9223372036854775807 := by
  simp only [Lit.wf, IntKind.min, IntKind.max, IntKind.bits, IntKind.signed, Bool.and_eq_true, decide_eq_true_eq] at h
  simpa using h
theorem wfB {x : Int} (h : (Lit.int .u8 x).wf = true) : 0 ≤ x ∧ x ≤ 255 := by
  simp only [Lit.wf, IntKind.min, IntKind.max, IntKind.bits, IntKind.signed, Bool.and_eq_true, decide_eq_true_eq] at h
  simpa using h
theorem rdN (l : List Int) (i : Nat) (h : i < l.length) : rd l (i : Int) = l[i] := by simp [rd, List.getD_eq_getElem?_getD, h]
theorem fillStep {α : Type} (l : List α) (z : α) (i d : Nat) (h : i + (d + 1) = l.length) : (l.take i ++ List.replicate (d + 1) z).set i (l[i]'(by omega)) = l.take (i + 1) ++ List.replicate d z := by
  rw [List.set_append_right _ _ (by simp; omega), List.take_succ_eq_append_getElem (show i < l.length by omega), List.append_assoc]
  congr 1
  have e : i - (l.take i).length = 0 := by simp; omega
  rw [e]
  rfl
theorem evCast {α : Type} {g : Nat → Option α} {r r' : α} (h : Ev g r') (e : r' = r) : Ev g r := e ▸ h

/-! ### the receiving part, in plain Lean -/
open Go.Proofs.Ytmhelhfkicajdaa.MapF (upd upd_same upd_other)
def cnt (f : Int → Option Int) : Nat → Nat
  | 0 => 0
  | p + 1 => cnt f p + (if (f (p : Int)).isSome = true then 1 else 0)
theorem cnt_congr {f g : Int → Option Int} : ∀ (t : Nat), (∀ p : Nat, p < t → (f (p : Int)).isSome = (g (p : Int)).isSome) → cnt f t = cnt g t
  | 0, _ => rfl
  | p + 1, h => by
    simp only [cnt]
    rw [cnt_congr p (fun q hq => h q (by omega)), h p (by omega)]
theorem cnt_put {f : Int → Option Int} {q : Nat} {x : Int} : ∀ (t : Nat), q < t → (f (q : Int)).isSome = false → cnt (upd f (q : Int) (some x)) t = cnt f t + 1
  | 0, h, _ => absurd h (by omega)
  | p + 1, h, hf => by
    simp only [cnt]
    by_cases e : q = p
    · subst e
      rw [upd_same, cnt_congr (f := upd f (q : Int) (some x)) (g := f) q (fun r hr => by rw [upd_other _ _ (by omega)]), hf]
      simp
    · rw [cnt_put p (by omega) hf, upd_other _ _ (by omega)]
      omega
theorem cnt_drop {f : Int → Option Int} {q : Nat} : ∀ (t : Nat), q < t → (f (q : Int)).isSome = true → cnt (upd f (q : Int) none) t + 1 = cnt f t
  | 0, h, _ => absurd h (by omega)
  | p + 1, h, hf => by
    simp only [cnt]
    by_cases e : q = p
    · subst e
      rw [upd_same, cnt_congr (f := upd f (q : Int) none) (g := f) q (fun r hr => by rw [upd_other _ _ (by omega)]), hf]
      simp
    · have := cnt_drop p (by omega) hf
      rw [upd_other _ _ (by omega)]
      omega
theorem cnt_none {f : Int → Option Int} : ∀ (t : Nat), (∀ p : Nat, p < t → (f (p : Int)).isSome = false) → cnt f t = 0
  | 0, _ => rfl
  | p + 1, h => by
    simp only [cnt]
    rw [cnt_none p (fun q hq => h q (by omega)), h p (by omega)]
    simp
theorem cnt_all {f : Int → Option Int} {rd : Nat} : ∀ (t : Nat), rd ≤ t → (∀ p : Nat, p < rd → (f (p : Int)).isSome = false) → rd + cnt f t ≤ t ∧ (rd + cnt f t = t ↔ ∀ p : Nat, rd ≤ p → p < t → (f (p : Int)).isSome = true)
  | 0, h, _ => ⟨by simp only [cnt]; omega, fun _ p _ hp => absurd hp (by omega), fun _ => by simp only [cnt]; omega⟩
  | t + 1, h, h0 => by
    by_cases e : rd = t + 1
    · have hn : cnt f (t + 1) = 0 := cnt_none _ (fun p hp => h0 p (by omega))
      rw [hn]
      exact ⟨by omega, fun _ p h1 h2 => absurd h2 (by omega), fun _ => by omega⟩
    · obtain ⟨i1, i2⟩ := cnt_all t (by omega) h0
      simp only [cnt]
      by_cases hs : (f (t : Int)).isSome = true
      · rw [if_pos hs]
        refine ⟨by omega, fun hh p h1 h2 => ?_, fun hh => ?_⟩
        · by_cases ep : p = t
          · rw [ep]; exact hs
          · exact i2.1 (by omega) p h1 (by omega)
        · have := i2.2 (fun p h1 h2 => hh p h1 (by omega))
          omega
      · rw [if_neg hs]
        refine ⟨by omega, fun hh => absurd hh (by omega), fun hh => absurd (hh t (by omega) (by omega)) hs⟩
theorem puts_is (T : List Int) (f : Int → Option Int) (c rd o m : Nat) (hc : c = cnt f T.length) (hom : o + m ≤ T.length) : ∀ i, i ≤ m →
    (∀ y : Int, (impl_rc.puts f c (rd : Int) (o : Int) ((T.drop o).take m) i).1 y = if (f y).isSome = true then f y else if (o : Int) ≤ y ∧ y < (o : Int) + (i : Int) ∧ (rd : Int) ≤ y then some (T.getD y.toNat 0) else none) ∧
      (impl_rc.puts f c (rd : Int) (o : Int) ((T.drop o).take m) i).2 = cnt (impl_rc.puts f c (rd : Int) (o : Int) ((T.drop o).take m) i).1 T.length
  | 0, _ => ⟨fun y => by
      simp only [impl_rc.puts]
      by_cases h : (f y).isSome = true
      · rw [if_pos h]
      · rw [if_neg h, if_neg (by omega)]
        cases hf : f y with
        | none => rfl
        | some x => rw [hf] at h; exact absurd rfl h, hc⟩
  | i + 1, hi => by
    obtain ⟨h1, h2⟩ := puts_is T f c rd o m hc hom i (by omega)
    have hg : ((T.drop o).take m).getD i 0 = T.getD (o + i) 0 := by
      rw [List.getD_eq_getElem?_getD, List.getD_eq_getElem?_getD, List.getElem?_take, if_pos (by omega), List.getElem?_drop]
    have hy := h1 ((o : Int) + (i : Int))
    simp only [impl_rc.puts]
    rw [hg]
    generalize hP : impl_rc.puts f c (rd : Int) (o : Int) ((T.drop o).take m) i = P at h1 h2 hy ⊢
    have e0 : ((o : Int) + (i : Int)) = ((o + i : Nat) : Int) := by omega
    by_cases hs : (f ((o : Int) + (i : Int))).isSome = true
    · rw [if_pos hs] at hy
      rw [if_neg (by rw [hy, hs]; simp)]
      refine ⟨fun y => ?_, h2⟩
      rw [h1 y]
      by_cases hy2 : (f y).isSome = true
      · rw [if_pos hy2, if_pos hy2]
      · rw [if_neg hy2, if_neg hy2]
        have : y ≠ (o : Int) + (i : Int) := fun e => hy2 (e ▸ hs)
        by_cases hr : (o : Int) ≤ y ∧ y < (o : Int) + (i : Int) ∧ (rd : Int) ≤ y
        · rw [if_pos hr, if_pos (by omega)]
        · rw [if_neg hr, if_neg (by omega)]
    · rw [if_neg hs, if_neg (by omega)] at hy
      by_cases hr : (rd : Int) ≤ (o : Int) + (i : Int)
      · rw [if_pos ⟨by rw [hy]; rfl, hr⟩]
        refine ⟨fun y => ?_, ?_⟩
        · dsimp only
          by_cases e : y = (o : Int) + (i : Int)
          · subst e
            rw [upd_same, if_neg hs, if_pos (by omega), show ((o : Int) + (i : Int)).toNat = o + i by omega]
          · rw [upd_other _ _ e, h1 y]
            by_cases hy2 : (f y).isSome = true
            · rw [if_pos hy2, if_pos hy2]
            · rw [if_neg hy2, if_neg hy2]
              by_cases hr2 : (o : Int) ≤ y ∧ y < (o : Int) + (i : Int) ∧ (rd : Int) ≤ y
              · rw [if_pos hr2, if_pos (by omega)]
              · rw [if_neg hr2, if_neg (by omega)]
        · rw [e0] at hy ⊢
          rw [cnt_put T.length (by omega) (by rw [hy]; rfl), h2]
      · rw [if_neg (fun hh => hr hh.2)]
        refine ⟨fun y => ?_, h2⟩
        rw [h1 y]
        by_cases hy2 : (f y).isSome = true
        · rw [if_pos hy2, if_pos hy2]
        · rw [if_neg hy2, if_neg hy2]
          by_cases hr2 : (o : Int) ≤ y ∧ y < (o : Int) + (i : Int) ∧ (rd : Int) ≤ y
          · rw [if_pos hr2, if_pos (by omega)]
          · rw [if_neg hr2, if_neg (by omega)]
theorem dels_is (t : Nat) (ht : t ≤ 1000000) (f : Int → Option Int) (c rd m : Nat) (hc : c = cnt f t) (hm : rd + m ≤ t) (hs : ∀ j : Nat, j < m → (f ((rd + j : Nat) : Int)).isSome = true) : ∀ i, i ≤ m →
    (∀ y : Int, (impl_rc.dels f c (rd : Int) i).1 y = if (rd : Int) ≤ y ∧ y < (rd : Int) + (i : Int) then none else f y) ∧ (impl_rc.dels f c (rd : Int) i).2 = cnt (impl_rc.dels f c (rd : Int) i).1 t
  | 0, _ => ⟨fun y => by
      simp only [impl_rc.dels]
      rw [if_neg (by omega)], hc⟩
  | i + 1, hi => by
    obtain ⟨h1, h2⟩ := dels_is t ht f c rd m hc hm hs i (by omega)
    simp only [impl_rc.dels]
    generalize hP : impl_rc.dels f c (rd : Int) i = P at h1 h2 ⊢
    have ew : wrap64 ((rd : Int) + (i : Int)) = ((rd + i : Nat) : Int) := by rw [w64 (by omega) (by omega)]; omega
    rw [ew]
    have hy : P.1 ((rd + i : Nat) : Int) = f ((rd + i : Nat) : Int) := by rw [h1, if_neg (by omega)]
    have hsi := hs i (by omega)
    rw [if_pos (by rw [hy]; exact hsi)]
    refine ⟨fun y => ?_, ?_⟩
    · by_cases e : y = ((rd + i : Nat) : Int)
      · subst e
        rw [upd_same, if_pos (by omega)]
      · rw [upd_other _ _ e, h1 y]
        by_cases hr2 : (rd : Int) ≤ y ∧ y < (rd : Int) + (i : Int)
        · rw [if_pos hr2, if_pos (by omega)]
        · rw [if_neg hr2, if_neg (by omega)]
    · have := cnt_drop t (q := rd + i) (f := P.1) (by omega) (by rw [hy]; exact hsi)
      omega
theorem ready_is (T : List Int) (ht : T.length ≤ 1000000) (f : Int → Option Int) (rd : Nat) (hd : ∀ y x, f y = some x → ∃ p : Nat, y = (p : Int) ∧ rd ≤ p ∧ p < T.length ∧ x = T.getD p 0) (nn : Int) (hn : 0 ≤ nn) :
    ∀ (d m : Nat), rd + m + d = T.length → (∀ j : Nat, j < m → (f ((rd + j : Nat) : Int)).isSome = true) → (m : Int) ≤ nn →
      ∃ m2 : Nat, m ≤ m2 ∧ rd + m2 ≤ T.length ∧ (∀ j : Nat, j < m2 → (f ((rd + j : Nat) : Int)).isSome = true) ∧ (m2 : Int) ≤ nn ∧ ((m2 : Int) = nn ∨ f ((rd + m2 : Nat) : Int) = none) ∧ Ev (fun k => impl_rc.ready f (rd : Int) nn k ((T.drop rd).take m)) ((T.drop rd).take m2) := by
  intro d
  induction d with
  | zero =>
    intro m hm hs hmn
    have hl : ((T.drop rd).take m).length = m := by rw [List.length_take, List.length_drop]; omega
    have hf : f ((rd + m : Nat) : Int) = none := by
      cases hf : f ((rd + m : Nat) : Int) with
      | none => rfl
      | some x => obtain ⟨p, h1, h2, h3, _⟩ := hd _ _ hf; omega
    refine ⟨m, Nat.le_refl _, by omega, hs, hmn, .inr hf, evSucc ?_⟩
    simp only [impl_rc.ready]
    rw [hl, w64 (by omega) (by omega), show (rd : Int) + (m : Int) = ((rd + m : Nat) : Int) by omega, hf]
    exact evSplit (fun _ => evPos (by omega) (Ev.now _)) (fun _ => Ev.now _)
  | succ d ih =>
    intro m hm hs hmn
    have hl : ((T.drop rd).take m).length = m := by rw [List.length_take, List.length_drop]; omega
    by_cases hlt : (m : Int) < nn
    · cases hf : f ((rd + m : Nat) : Int) with
      | none =>
        refine ⟨m, Nat.le_refl _, by omega, hs, hmn, .inr hf, evSucc ?_⟩
        simp only [impl_rc.ready]
        rw [hl, w64 (by omega) (by omega), show (rd : Int) + (m : Int) = ((rd + m : Nat) : Int) by omega, hf]
        exact evPos hlt (evPos (by omega) (Ev.now _))
      | some x =>
        obtain ⟨p, h1, h2, h3, h4⟩ := hd _ _ hf
        obtain ⟨m2, g1, g2, g3, g4, g5, g6⟩ := ih (m + 1) (by omega) (fun j hj => by
          by_cases e : j = m
          · rw [e, hf]; rfl
          · exact hs j (by omega)) (by omega)
        have e1 : (T.drop rd).take m ++ [x] = (T.drop rd).take (m + 1) := by
          rw [List.take_add_one, List.getElem?_drop, show T[rd + m]? = some x by rw [h4, show p = rd + m by omega, List.getD_eq_getElem?_getD, List.getElem?_eq_getElem (by omega)]; rfl]
          rfl
        refine ⟨m2, by omega, g2, g3, g4, g5, evSucc ?_⟩
        simp only [impl_rc.ready]
        rw [hl, w64 (by omega) (by omega), show (rd : Int) + (m : Int) = ((rd + m : Nat) : Int) by omega, hf]
        simp only []
        rw [e1]
        exact evPos hlt (evPos (by omega) g6)
    · refine ⟨m, Nat.le_refl _, by omega, hs, hmn, .inl (by omega), evSucc ?_⟩
      simp only [impl_rc.ready]
      rw [hl]
      exact evNeg hlt (Ev.now _)

def allCome (T : List Int) (rd : Nat) (f : Int → Option Int) : Prop := ∀ p : Nat, rd ≤ p → p < T.length → (f (p : Int)).isSome = true
structure RI (T : List Int) (rd : Nat) (v : impl_rc.V) : Prop where
  read : v.read = (rd : Int)
  le : rd ≤ T.length
  dom : ∀ y x, v.f y = some x → ∃ p : Nat, y = (p : Int) ∧ rd ≤ p ∧ p < T.length ∧ x = T.getD p 0
  c : v.c = cnt v.f T.length
  known : v.known = true ↔ (rd = T.length ∨ (v.f ((T.length - 1 : Nat) : Int)).isSome = true)
  fin : v.known = true → v.fin = (T.length : Int)
  told : 1000 ≤ v.told ∧ v.told ≤ 1000 + (T.length : Int)
  win : v.win = 1000
  top : 0 ≤ v.top ∧ v.top ≤ (T.length : Int)
  st : (v.st = 0 ∧ v.known = false) ∨ (v.st = 1 ∧ v.known = true ∧ ¬ allCome T rd v.f) ∨ (v.st = 2 ∧ v.known = true ∧ allCome T rd v.f ∧ rd < T.length) ∨ (v.st = 3 ∧ v.known = true ∧ rd = T.length)
def come (rd : Nat) (v : impl_rc.V) (p : Nat) : Prop := p < rd ∨ (v.f (p : Int)).isSome = true
theorem dom_low {T : List Int} {rd : Nat} {f : Int → Option Int} (hd : ∀ y x, f y = some x → ∃ p : Nat, y = (p : Int) ∧ rd ≤ p ∧ p < T.length ∧ x = T.getD p 0) (p : Nat) (hp : p < rd) : (f (p : Int)).isSome = false := by
  cases hf : f (p : Int) with
  | none => rfl
  | some x => obtain ⟨q, h1, h2, _⟩ := hd _ _ hf; omega
theorem data_step {T : List Int} (h1 : 1 ≤ T.length) (ht : T.length ≤ 1000) {rd : Nat} {v : impl_rc.V} (h : RI T rd v) (o m : Nat) (hm : 1 ≤ m) (hm2 : m ≤ 1500) (hom : o + m ≤ T.length) :
    ∃ v2, impl_rc.data v (o : Int) ((T.drop o).take m) (decide (o + m = T.length)) = (0, v2) ∧ RI T rd v2 ∧ v2.told = v.told ∧ (∀ p, come rd v p → come rd v2 p) ∧ (∀ p, o ≤ p → p < o + m → come rd v2 p) := by
  obtain ⟨st, told, win, read, top, fin, known, f, c⟩ := v
  obtain ⟨r1, r2, r3, r4, r5, r6, r7, r8, r9, r10⟩ := h
  dsimp only at r1 r2 r3 r4 r5 r6 r7 r8 r9 r10
  subst r1 r4 r8
  have hl : ((T.drop o).take m).length = m := by rw [List.length_take, List.length_drop]; omega
  have een : (o : Int) + (m : Int) = ((o + m : Nat) : Int) := by omega
  have hbad : impl_rc.bad ⟨st, told, 1000, (rd : Int), top, fin, known, f, cnt f T.length⟩ ((o : Int) + (m : Int)) (decide (o + m = T.length)) = false := by
    unfold impl_rc.bad
    dsimp only
    by_cases hf : o + m = T.length
    · rw [decide_eq_true hf]
      have e1 : decide ((o : Int) + (m : Int) < top) = false := decide_eq_false (by omega)
      rw [e1]
      cases hk : known with
      | false => rfl
      | true =>
        have := r6 hk
        have e2 : decide (fin < (o : Int) + (m : Int)) = false := decide_eq_false (by omega)
        have e3 : ((o : Int) + (m : Int) != fin) = false := by
          have : (o : Int) + (m : Int) = fin := by omega
          rw [this]; simp
        rw [e2, e3]; rfl
    · rw [decide_eq_false hf]
      cases hk : known with
      | false => rfl
      | true =>
        have := r6 hk
        have e2 : decide (fin < (o : Int) + (m : Int)) = false := decide_eq_false (by omega)
        rw [e2]; rfl
  unfold impl_rc.data
  rw [hl, if_neg (by omega), if_neg (by omega), if_neg (by omega), if_neg (by dsimp only; omega), hbad, if_neg (by simp)]
  dsimp only
  by_cases hst : st = 0 ∨ st = 1
  · rw [if_pos hst]
    have hlt : rd < T.length := by
      rcases r10 with ⟨e, k⟩ | ⟨e, k, na⟩ | ⟨e, _⟩ | ⟨e, _⟩
      · by_cases hh : rd = T.length
        · rw [r5.2 (.inl hh)] at k; exact absurd k (by simp)
        · omega
      · by_cases hh : rd = T.length
        · exact absurd (fun p h1 h2 => absurd h2 (by omega)) na
        · omega
      · omega
      · omega
    obtain ⟨g1, g2⟩ := puts_is T f (cnt f T.length) rd o m rfl hom m (Nat.le_refl _)
    unfold impl_rc.kept
    dsimp only
    rw [hl]
    generalize impl_rc.puts f (cnt f T.length) (rd : Int) (o : Int) ((T.drop o).take m) m = P at g1 g2 ⊢
    obtain ⟨g, c2⟩ := P
    dsimp only at g1 g2 ⊢
    subst g2
    have gs : ∀ p : Nat, (g (p : Int)).isSome = true ↔ ((f (p : Int)).isSome = true ∨ (o ≤ p ∧ p < o + m ∧ rd ≤ p)) := fun p => by
      rw [g1]
      by_cases hs : (f (p : Int)).isSome = true
      · rw [if_pos hs]; simp [hs]
      · rw [if_neg hs]
        by_cases hr : (o : Int) ≤ (p : Int) ∧ (p : Int) < (o : Int) + (m : Int) ∧ (rd : Int) ≤ (p : Int)
        · rw [if_pos hr]
          exact ⟨fun _ => .inr ⟨by omega, by omega, by omega⟩, fun _ => rfl⟩
        · rw [if_neg hr]
          exact ⟨fun hh => absurd hh (by simp), fun hh => hh.elim (fun hh => absurd hh hs) (fun hh => absurd hh (by omega))⟩
    have gd : ∀ y x, g y = some x → ∃ p : Nat, y = (p : Int) ∧ rd ≤ p ∧ p < T.length ∧ x = T.getD p 0 := fun y x hy => by
      rw [g1] at hy
      by_cases hs : (f y).isSome = true
      · rw [if_pos hs] at hy; exact r3 y x hy
      · rw [if_neg hs] at hy
        by_cases hr : (o : Int) ≤ y ∧ y < (o : Int) + (m : Int) ∧ (rd : Int) ≤ y
        · rw [if_pos hr] at hy
          exact ⟨y.toNat, by omega, by omega, by omega, (Option.some.inj hy).symm⟩
        · rw [if_neg hr] at hy; exact absurd hy (by simp)
    obtain ⟨a1, a2⟩ := cnt_all (f := g) T.length r2 (fun p hp => dom_low gd p hp)
    rw [w64 (by omega) (by omega)]
    have cm : ∀ p, p < rd ∨ (f (p : Int)).isSome = true → p < rd ∨ (g (p : Int)).isSome = true := fun p hp => hp.imp id (fun hs => (gs p).2 (.inl hs))
    have cn : ∀ p, o ≤ p → p < o + m → p < rd ∨ (g (p : Int)).isSome = true := fun p hp1 hp2 => by
      by_cases hp : p < rd
      · exact .inl hp
      · exact .inr ((gs p).2 (.inr ⟨hp1, hp2, by omega⟩))
    by_cases hf : o + m = T.length
    · rw [decide_eq_true hf, if_pos rfl]
      have hk : (g ((T.length - 1 : Nat) : Int)).isSome = true := (gs _).2 (.inr ⟨by omega, by omega, by omega⟩)
      by_cases ha : (rd : Int) + (cnt g T.length : Int) = (o : Int) + (m : Int)
      · rw [if_pos ha]
        exact ⟨_, rfl, ⟨rfl, r2, gd, rfl, ⟨fun _ => .inr hk, fun _ => rfl⟩, fun _ => by dsimp only; omega, r7, rfl, ⟨by dsimp only; omega, by dsimp only; omega⟩, .inr (.inr (.inl ⟨rfl, rfl, a2.1 (by omega), hlt⟩))⟩, rfl, cm, cn⟩
      · rw [if_neg ha]
        exact ⟨_, rfl, ⟨rfl, r2, gd, rfl, ⟨fun _ => .inr hk, fun _ => rfl⟩, fun _ => by dsimp only; omega, r7, rfl, ⟨by dsimp only; omega, by dsimp only; omega⟩, .inr (.inl ⟨rfl, rfl, fun hh => ha (by have := a2.2 hh; omega)⟩)⟩, rfl, cm, cn⟩
    · rw [decide_eq_false hf, if_neg (by simp)]
      have hk : known = true ↔ (rd = T.length ∨ (g ((T.length - 1 : Nat) : Int)).isSome = true) := by
        rw [r5, gs]
        constructor
        · rintro (hh | hh)
          · exact .inl hh
          · exact .inr (.inl hh)
        · rintro (hh | hh | hh)
          · exact .inl hh
          · exact .inr hh
          · omega
      by_cases ha : known = true ∧ (rd : Int) + (cnt g T.length : Int) = fin
      · rw [if_pos ha]
        have := r6 ha.1
        exact ⟨_, rfl, ⟨rfl, r2, gd, rfl, hk, r6, r7, rfl, ⟨by dsimp only; omega, by dsimp only; omega⟩, .inr (.inr (.inl ⟨rfl, ha.1, a2.1 (by omega), hlt⟩))⟩, rfl, cm, cn⟩
      · rw [if_neg ha]
        refine ⟨_, rfl, ⟨rfl, r2, gd, rfl, hk, r6, r7, rfl, ⟨by dsimp only; omega, by dsimp only; omega⟩, ?_⟩, rfl, cm, cn⟩
        rcases r10 with ⟨e, k⟩ | ⟨e, k, na⟩ | ⟨e, _⟩ | ⟨e, _⟩
        · exact .inl ⟨e, k⟩
        · exact .inr (.inl ⟨e, k, fun hh => ha ⟨k, by have := a2.2 hh; have := r6 k; omega⟩⟩)
        · omega
        · omega
  · rw [if_neg hst]
    refine ⟨_, rfl, ⟨rfl, r2, r3, rfl, r5, r6, r7, rfl, ⟨by dsimp only; omega, by dsimp only; omega⟩, r10⟩, rfl, fun p hp => hp, fun p hp1 hp2 => ?_⟩
    rcases r10 with ⟨e, k⟩ | ⟨e, k, na⟩ | ⟨e, k, al, hlt⟩ | ⟨e, k, he⟩
    · exact absurd (.inl e) hst
    · exact absurd (.inr e) hst
    · by_cases hp : p < rd
      · exact .inl hp
      · exact .inr (al p (by omega) (by omega))
    · exact .inl (by omega)
theorem credit_is (r told : Int) (h0 : 0 ≤ r) (h1 : r ≤ 1000) (h2 : 1000 ≤ told) (h3 : told ≤ 2000) : Ev (fun k => impl_CreditNext.f k r 1000 told) (if 500 ≤ r + 1000 - told then r + 1000 else told) := by
  unfold impl_CreditNext.f
  refine evNeg (by omega) (evNeg (by omega) (evNeg (by omega) (evNeg (by omega) (evNeg (by omega) (evSucc ?_)))))
  simp only [impl_CreditNext.j0]
  rw [w64 (x := r + 1000) (by omega) (by omega), w64 (x := r + 1000 - told) (by omega) (by omega), show wrap64 (Int.tdiv (wrap64 (1000 + 1)) 2) = 500 by decide +kernel]
  refine evNeg (by decide) ?_
  exact evSplit (fun hc => evNow (if_pos hc).symm) (fun hc => evNow (if_neg hc).symm)
theorem take_step {T : List Int} (h1 : 1 ≤ T.length) (ht : T.length ≤ 1000) {rd : Nat} {v : impl_rc.V} (h : RI T rd v) (nn : Int) (hn : 1 ≤ nn) :
    ∃ m en v2, Ev (fun k => impl_rc.take k v nn) (((T.drop rd).take m, en, 0), v2) ∧ rd + m ≤ T.length ∧ RI T (rd + m) v2 ∧ v.told ≤ v2.told ∧ (∀ p, come rd v p → come (rd + m) v2 p) ∧ (en = true → rd + m = T.length) ∧
      ((∀ p, p < T.length → come rd v p) → 100000 ≤ nn → en = true ∧ v2.st = 3 ∧ rd + m = T.length) := by
  obtain ⟨st, told, win, read, top, fin, known, f, c⟩ := v
  obtain ⟨r1, r2, r3, r4, r5, r6, r7, r8, r9, r10⟩ := h
  dsimp only at r1 r2 r3 r4 r5 r6 r7 r8 r9 r10
  subst r1 r4 r8
  obtain ⟨m, _, b1, b2, b3, b4, b5⟩ := ready_is T (by omega) f rd r3 nn (by omega) (T.length - rd) 0 (by omega) (fun j hj => absurd hj (by omega)) (by omega)
  have hl : ((T.drop rd).take m).length = m := by rw [List.length_take, List.length_drop]; omega
  obtain ⟨d1, d2⟩ := dels_is T.length (by omega) f (cnt f T.length) rd m rfl b1 b2 m (Nat.le_refl _)
  have hrd : wrap64 ((rd : Int) + (((T.drop rd).take m).length : Int)) = ((rd + m : Nat) : Int) := by rw [hl, w64 (by omega) (by omega)]; omega
  have core : ∀ st2 told2, ((st2 = 0 ∧ known = false) ∨ (st2 = 1 ∧ known = true ∧ ¬ allCome T rd f) ∨ (st2 = 2 ∧ known = true ∧ allCome T rd f ∧ rd + m < T.length) ∨ (st2 = 3 ∧ known = true ∧ rd + m = T.length)) → 1000 ≤ told2 ∧ told2 ≤ 1000 + (T.length : Int) →
      RI T (rd + m) ⟨st2, told2, 1000, ((rd + m : Nat) : Int), top, fin, known, (impl_rc.dels f (cnt f T.length) (rd : Int) ((T.drop rd).take m).length).1, (impl_rc.dels f (cnt f T.length) (rd : Int) ((T.drop rd).take m).length).2⟩ ∧
        (∀ p, come rd ⟨st, told, 1000, (rd : Int), top, fin, known, f, cnt f T.length⟩ p → come (rd + m) ⟨st2, told2, 1000, ((rd + m : Nat) : Int), top, fin, known, (impl_rc.dels f (cnt f T.length) (rd : Int) ((T.drop rd).take m).length).1, (impl_rc.dels f (cnt f T.length) (rd : Int) ((T.drop rd).take m).length).2⟩ p) := by
    intro st2 told2 hs2 ht2
    rw [hl]
    generalize impl_rc.dels f (cnt f T.length) (rd : Int) m = P at d1 d2 ⊢
    obtain ⟨g, c2⟩ := P
    dsimp only at d1 d2 ⊢
    subst d2
    have gh : ∀ p : Nat, rd + m ≤ p → g (p : Int) = f (p : Int) := fun p hp => by rw [d1, if_neg (by omega)]
    have ga : allCome T (rd + m) g ↔ allCome T rd f := by
      constructor
      · intro hh p hp1 hp2
        by_cases hp : p < rd + m
        · have := b2 (p - rd) (by omega)
          rwa [show rd + (p - rd) = p by omega] at this
        · rw [← gh p (by omega)]; exact hh p (by omega) hp2
      · intro hh p hp1 hp2
        rw [gh p hp1]; exact hh p (by omega) hp2
    refine ⟨⟨rfl, b1, fun y x hy => ?_, rfl, ?_, r6, ht2, rfl, r9, ?_⟩, fun p hp => ?_⟩
    · dsimp only at hy
      rw [d1] at hy
      by_cases hr : (rd : Int) ≤ y ∧ y < (rd : Int) + (m : Int)
      · rw [if_pos hr] at hy; exact absurd hy (by simp)
      · rw [if_neg hr] at hy
        obtain ⟨p, q1, q2, q3, q4⟩ := r3 y x hy
        exact ⟨p, q1, by omega, q3, q4⟩
    · dsimp only
      rw [r5]
      by_cases hx : T.length - 1 < rd + m
      · by_cases hx2 : T.length - 1 < rd
        · exact ⟨fun _ => .inl (by omega), fun _ => .inl (by omega)⟩
        · have := b2 (T.length - 1 - rd) (by omega)
          rw [show rd + (T.length - 1 - rd) = T.length - 1 by omega] at this
          exact ⟨fun _ => .inl (by omega), fun _ => .inr this⟩
      · rw [gh _ (by omega)]
        exact ⟨fun hh => hh.imp (fun e => by omega) id, fun hh => hh.imp (fun e => by omega) id⟩
    · dsimp only
      rw [ga]
      exact hs2
    · rcases hp with hp | hp
      · exact .inl (by omega)
      · by_cases hpm : p < rd + m
        · exact .inl hpm
        · exact .inr (by dsimp only at hp ⊢; rw [gh p (by omega)]; exact hp)
  have hall : (∀ p, p < T.length → come rd ⟨st, told, 1000, (rd : Int), top, fin, known, f, cnt f T.length⟩ p) → 100000 ≤ nn → rd + m = T.length ∧ known = true ∧ allCome T rd f := fun hc hn2 => by
    have hac : allCome T rd f := fun p hp1 hp2 => by
      rcases hc p hp2 with hh | hh
      · omega
      · exact hh
    have e : rd + m = T.length := by
      by_cases e : rd + m = T.length
      · exact e
      · rcases b4 with hh | hh
        · omega
        · have := hac (rd + m) (by omega) (by omega)
          rw [hh] at this
          exact absurd this (by simp)
    refine ⟨e, r5.2 ?_, hac⟩
    rcases hc (T.length - 1) (by omega) with hh | hh
    · exact .inl (by omega)
    · exact .inr hh
  have n4 : ¬ st = 4 := by rcases r10 with ⟨e, _⟩ | ⟨e, _⟩ | ⟨e, _⟩ | ⟨e, _⟩ <;> omega
  have n5 : ¬ st = 5 := by rcases r10 with ⟨e, _⟩ | ⟨e, _⟩ | ⟨e, _⟩ | ⟨e, _⟩ <;> omega
  unfold impl_rc.take
  dsimp only
  by_cases s2 : st = 2 ∧ ((rd + m : Nat) : Int) = fin
  · have hk : known = true := by rcases r10 with ⟨e, _⟩ | ⟨e, _⟩ | ⟨e, k, _⟩ | ⟨e, _⟩ <;> first | exact k | omega
    have e : rd + m = T.length := by have := r6 hk; omega
    obtain ⟨c1, c2⟩ := core 3 told (.inr (.inr (.inr ⟨rfl, hk, e⟩))) r7
    refine ⟨m, true, _, evNeg (by omega) (evNeg n4 (evNeg n5 (evBind b5 (evPos (by rw [hl]; omega) (evPos (by rw [hrd]; exact s2) (by rw [hrd]; exact Ev.now _)))))), b1, c1, Int.le_refl _, c2, fun _ => e, fun _ _ => ⟨rfl, rfl, e⟩⟩
  · by_cases s0 : st = 0
    · have hk : known = false := by rcases r10 with ⟨e, k⟩ | ⟨e, _⟩ | ⟨e, k, _⟩ | ⟨e, _⟩ <;> first | exact k | omega
      have hcr := credit_is ((rd + m : Nat) : Int) told (by omega) (by omega) r7.1 (by omega)
      obtain ⟨t2, ht2⟩ : ∃ t2, t2 = (if 500 ≤ ((rd + m : Nat) : Int) + 1000 - told then ((rd + m : Nat) : Int) + 1000 else told) := ⟨_, rfl⟩
      rw [← ht2] at hcr
      have tb : told ≤ t2 ∧ 1000 ≤ t2 ∧ t2 ≤ 1000 + (T.length : Int) := by rw [ht2]; split <;> omega
      obtain ⟨c1, c2⟩ := core 0 t2 (.inl ⟨rfl, hk⟩) tb.2
      subst s0
      refine ⟨m, false, _, evNeg (by omega) (evNeg n4 (evNeg n5 (evBind b5 (evPos (by rw [hl]; omega) (evNeg (by rw [hrd]; exact s2) (evPos rfl (by rw [hrd]; exact evBind hcr (Ev.now _)))))))), b1, c1, tb.1, c2, fun hh => absurd hh (by simp), fun ha hn2 => ?_⟩
      have := (hall ha hn2).2.1
      rw [hk] at this
      exact absurd this (by simp)
    · obtain ⟨c1, c2⟩ := core st told (by
        rcases r10 with hh | hh | ⟨e, k, al, hlt⟩ | ⟨e, k, he⟩
        · exact .inl hh
        · exact .inr (.inl hh)
        · exact .inr (.inr (.inl ⟨e, k, al, by have := r6 k; omega⟩))
        · exact .inr (.inr (.inr ⟨e, k, by omega⟩))) r7
      refine ⟨m, decide (st = 3), _, evNeg (by omega) (evNeg n4 (evNeg n5 (evBind b5 (evPos (by rw [hl]; omega) (evNeg (by rw [hrd]; exact s2) (evNeg s0 (by rw [hrd]; exact Ev.now _))))))), b1, c1, Int.le_refl _, c2, fun hh => ?_, fun ha hn2 => ?_⟩
      · have e3 := of_decide_eq_true hh
        rcases r10 with ⟨e, _⟩ | ⟨e, _⟩ | ⟨e, _⟩ | ⟨e, _, he⟩ <;> omega
      · obtain ⟨e, hk, hac⟩ := hall ha hn2
        have e3 : st = 3 := by
          rcases r10 with ⟨e1, _⟩ | ⟨_, _, na⟩ | ⟨e1, _⟩ | ⟨e1, _⟩
          · omega
          · exact absurd hac na
          · exact absurd ⟨e1, by have := r6 hk; omega⟩ s2
          · exact e1
        exact ⟨decide_eq_true e3, e3, e⟩

def Fine (T : List Int) (op : S28) : Prop :=
  (op.f0 = 3 ∧ 1 ≤ op.f2 ∧ op.f3 = []) ∨ (op.f0 = 1 ∧ ∃ o m : Nat, op.f1 = (o : Int) ∧ 1 ≤ m ∧ m ≤ 1500 ∧ o + m ≤ T.length ∧ op.f3 = (T.drop o).take m ∧ op.f4 = decide (o + m = T.length))
def covers (op : S28) (p : Nat) : Prop := op.f0 = 1 ∧ op.f1 ≤ (p : Int) ∧ (p : Int) < op.f1 + (op.f3.length : Int)
def Chk (T : List Int) : S33 → Nat → Int → List (S33) → Prop
  | la, rd, _, [] => rd = T.length ∧ la.f4 = true ∧ la.f1 = 3
  | _, rd, told, o :: os => o.f0 = 0 ∧ told ≤ o.f2 ∧ ∃ m, o.f3 = (T.drop rd).take m ∧ rd + m ≤ T.length ∧ (o.f4 = true → rd + m = T.length) ∧ Chk T o (rd + m) o.f2 os
theorem run_is {T : List Int} (h1 : 1 ≤ T.length) (ht : T.length ≤ 1000) : ∀ (ops : List (S28)), (∀ op ∈ ops, Fine T op) → ∀ (rd : Nat) (v : impl_rc.V), RI T rd v → (∀ p, p < T.length → come rd v p ∨ ∃ op ∈ ops, covers op p) →
    ∀ (acc : List (S33)) (la : S33), ∃ out, Ev (fun k => impl_rr.run k (ops ++ [⟨3, 0, 4611686018427387903, [], false⟩]) v acc) (acc ++ out) ∧ out ≠ [] ∧ Chk T la rd v.told out
  | [], _, rd, v, h, hc, acc, la => by
    obtain ⟨m, en, v2, e1, b1, _, b3, _, _, b6⟩ := take_step h1 ht h 4611686018427387903 (by omega)
    obtain ⟨c1, c2, c3⟩ := b6 (fun p hp => (hc p hp).elim id (fun ⟨op, ho, _⟩ => absurd ho (by simp))) (by omega)
    subst c1
    refine ⟨[⟨0, v2.st, v2.told, (T.drop rd).take m, true⟩], ?_, by simp, rfl, b3, m, rfl, b1, fun _ => c3, c3, rfl, c2⟩
    simp only [List.nil_append, impl_rr.run, impl_rr.step]
    exact evBind (a := (⟨0, v2.st, v2.told, (T.drop rd).take m, true⟩, v2)) (evNeg (by decide) (evNeg (by decide) (evPos (by first | trivial | rfl) (evBind e1 (Ev.now _))))) (Ev.now _)
  | op :: ops, hf, rd, v, h, hc, acc, la => by
    rcases hf op (List.mem_cons_self) with ⟨f0, f2, _⟩ | ⟨f0, o, m, f1, m1, m2, om, f3, f4⟩
    · obtain ⟨m, en, v2, e1, b1, b2, b3, b4, b5, _⟩ := take_step h1 ht h op.f2 f2
      obtain ⟨out, o1, o2, o3⟩ := run_is h1 ht ops (fun q hq => hf q (List.mem_cons_of_mem _ hq)) (rd + m) v2 b2 (fun p hp => (hc p hp).elim (fun hh => .inl (b4 p hh)) (fun ⟨q, hq, hv⟩ => by
        rcases List.mem_cons.1 hq with rfl | hq
        · have := hv.1; omega
        · exact .inr ⟨q, hq, hv⟩)) (acc ++ [⟨0, v2.st, v2.told, (T.drop rd).take m, en⟩]) ⟨0, v2.st, v2.told, (T.drop rd).take m, en⟩
      refine ⟨⟨0, v2.st, v2.told, (T.drop rd).take m, en⟩ :: out, ?_, by simp, rfl, b3, m, rfl, b1, b5, o3⟩
      rw [List.append_assoc] at o1
      simp only [List.cons_append, impl_rr.run, impl_rr.step]
      exact evBind (a := (⟨0, v2.st, v2.told, (T.drop rd).take m, en⟩, v2)) (evNeg (by omega) (evNeg (by omega) (evPos f0 (evBind e1 (Ev.now _))))) o1
    · obtain ⟨v2, e1, b1, b2, b3, b4⟩ := data_step h1 ht h o m m1 m2 om
      have hl : op.f3.length = m := by rw [f3, List.length_take, List.length_drop]; omega
      obtain ⟨out, o1, o2, o3⟩ := run_is h1 ht ops (fun q hq => hf q (List.mem_cons_of_mem _ hq)) rd v2 b1 (fun p hp => (hc p hp).elim (fun hh => .inl (b3 p hh)) (fun ⟨q, hq, hv⟩ => by
        rcases List.mem_cons.1 hq with rfl | hq
        · exact .inl (b4 p (by have := hv.2.1; omega) (by have := hv.2.2; omega))
        · exact .inr ⟨q, hq, hv⟩)) (acc ++ [⟨0, v2.st, v2.told, [], false⟩]) ⟨0, v2.st, v2.told, [], false⟩
      refine ⟨⟨0, v2.st, v2.told, [], false⟩ :: out, ?_, by simp, rfl, by rw [b2]; exact Int.le_refl _, 0, by simp, h.le, fun hh => absurd hh (by simp), o3⟩
      rw [List.append_assoc] at o1
      rw [← f1, ← f3, ← f4] at e1
      simp only [List.cons_append, impl_rr.run, impl_rr.step]
      rw [e1]
      exact evBind (a := (⟨0, v2.st, v2.told, [], false⟩, v2)) (evPos f0 (evPos (by omega) (Ev.now _))) o1
theorem RI_first {T : List Int} (h1 : 1 ≤ T.length) : RI T 0 ⟨0, 1000, 1000, 0, 0, 0, false, fun _ => none, 0⟩ :=
  ⟨rfl, Nat.zero_le _, fun y x h => absurd h (by simp), (cnt_none _ (fun _ _ => rfl)).symm, ⟨fun h => absurd h (by simp), fun h => h.elim (fun e => by omega) (fun e => absurd e (by simp))⟩, fun h => absurd h (by simp), ⟨Int.le_refl _, by dsimp only; omega⟩, rfl, ⟨Int.le_refl _, by dsimp only; omega⟩, .inl ⟨rfl, rfl⟩⟩
theorem runRecv {T : List Int} (h1 : 1 ≤ T.length) (ht : T.length ≤ 1000) (hw : ∀ x ∈ T, (Lit.int .u8 x).wf = true) (ops : List (S28)) (hf : ∀ op ∈ ops, Fine T op) (hc : ∀ p, p < T.length → ∃ op ∈ ops, covers op p) (hl : ops.length + 1 ≤ 400) (la : S33) :
    ∃ out, Ev (fun k => impl_RecvRun.f k 1000 (ops ++ [⟨3, 0, 4611686018427387903, [], false⟩])) (out, 0) ∧ out.length = ops.length + 1 ∧ Chk T la 0 1000 out := by
  obtain ⟨out, o1, o2, o3⟩ := run_is h1 ht ops hf 0 _ (RI_first h1) (fun p hp => .inr (hc p hp)) [] la
  rw [List.nil_append] at o1
  refine ⟨out, ?_, ?_, o3⟩
  · unfold impl_RecvRun.f
    refine evPos ⟨by omega, by omega, by rw [List.length_append]; exact hl, fun o ho x hx => ?_⟩ (evBind o1 (Ev.now _))
    rcases List.mem_append.1 ho with ho | ho
    · rcases hf o ho with ⟨_, _, e⟩ | ⟨_, a, m, _, _, _, _, e, _⟩
      · rw [e] at hx; exact absurd hx (by simp)
      · rw [e] at hx; exact hw x (List.mem_of_mem_drop (List.mem_of_mem_take hx))
    · rw [List.mem_singleton.1 ho] at hx; exact absurd hx (by simp)
  · obtain ⟨k, hk⟩ := evEnds o1
    have := impl_rr.run_len hk
    simpa using this

theorem copyL (l : List Int) (h : l.length < 100000000000) : laws_copied.f l = some l := by
  unfold laws_copied.f
  simp only [Option.bind_some, List.nil_append, List.length_nil]
  rw [if_pos (by omega)]
theorem sameSelf (l : List Int) : laws_same.f l l = some true := by
  unfold laws_same.f
  simp
theorem rdBy {l : List Int} (h : ∀ x ∈ l, 0 ≤ x ∧ x ≤ 255) (i : Int) : 0 ≤ rd l i ∧ rd l i ≤ 255 := by
  unfold rd
  rw [List.getD_eq_getElem?_getD]
  cases hq : l[i.toNat]? with
  | none => simp
  | some x => exact h x (List.mem_of_getElem? hq)
theorem at_is (more : List Int) (i n : Int) (h0 : 0 ≤ i) (h1 : i ≤ 1000000) (hn : 1 ≤ n) (hn2 : n ≤ 1000000) (hm : more.length ≤ 1048576) (hx : ∀ x ∈ more, 0 ≤ x ∧ x ≤ 255) : ∃ r, laws_at.f more i n = some r ∧ 0 ≤ r ∧ r < n := by
  unfold laws_at.f
  by_cases hn1 : n ≤ 1
  · rw [if_pos hn1]
    exact ⟨0, rfl, by omega, by omega⟩
  rw [if_neg hn1]
  have em : ∀ z : Int, 0 ≤ z → 0 ≤ Int.tmod z n ∧ Int.tmod z n < n := fun z hz => by
    rw [Int.tmod_eq_emod_of_nonneg hz]
    exact ⟨Int.emod_nonneg _ (by omega), Int.emod_lt_of_pos _ (by omega)⟩
  by_cases h : (more.length : Int) = 0
  · rw [if_pos h, if_neg (by omega), w64 (by omega) (by omega)]
    exact ⟨_, rfl, em _ (by omega)⟩
  · have hh : ∀ a : Int, 0 ≤ a → 0 ≤ Int.tmod a (more.length : Int) ∧ Int.tmod a (more.length : Int) < (more.length : Int) := by
      intro a ha
      rw [Int.tmod_eq_emod_of_nonneg ha]
      exact ⟨Int.emod_nonneg _ h, Int.emod_lt_of_pos _ (by omega)⟩
    rw [if_neg h, w64 (x := i + 1) (by omega) (by omega)]
    have q1 := hh i (by omega)
    have q2 := hh (i + 1) (by omega)
    rw [if_pos q1.1, if_pos q1.2, if_pos q2.1, if_pos q2.2, if_neg (by omega)]
    have b1 := rdBy hx (Int.tmod i (more.length : Int))
    have b2 := rdBy hx (Int.tmod (i + 1) (more.length : Int))
    have b3 : 0 ≤ Int.tdiv i (more.length : Int) ∧ Int.tdiv i (more.length : Int) ≤ 1000000 := by
      rw [Int.tdiv_eq_ediv_of_nonneg (by omega)]
      exact ⟨Int.ediv_nonneg (by omega) (by omega), Int.le_trans (Int.ediv_le_self _ (by omega)) (by omega)⟩
    generalize rd more (Int.tmod i (more.length : Int)) = x1 at b1 ⊢
    generalize rd more (Int.tmod (i + 1) (more.length : Int)) = x2 at b2 ⊢
    generalize Int.tdiv i (more.length : Int) = x3 at b3 ⊢
    rw [w64 (x := x1) (by omega) (by omega), w64 (x := x2) (by omega) (by omega), w64 (x := x3) (by omega) (by omega), w64 (x := x1 * 31) (by omega) (by omega), w64 (x := x1 * 31 + x2) (by omega) (by omega), w64 (x := x1 * 31 + x2 + x3) (by omega) (by omega)]
    exact ⟨_, rfl, em _ (by omega)⟩
/-! #### the answers, read in order -/
theorem rd33 (pre : List (S33)) (o : S33) (os : List (S33)) : rd_T33 (pre ++ o :: os) (pre.length : Int) = o := by
  unfold rd_T33
  rw [Int.toNat_natCast, List.getD_eq_getElem?_getD, List.getElem?_append_right (Nat.le_refl _), Nat.sub_self]
  rfl
theorem l2_is {T : List Int} (h1 : 1 ≤ T.length) (ht : T.length ≤ 1000) : ∀ (os pre : List (S33)) (la : S33) (rd : Nat) (told : Int), (pre ++ os).length ≤ 1000 → (pre = [] → rd = 0) → (pre ≠ [] → rd_T33 (pre ++ os) ((pre.length : Int) - 1) = la) → rd ≤ T.length → Chk T la rd told os →
    Ev (fun k => laws_FnRecvPrefix.l2 k T (pre ++ os) (T.take rd) told (pre.length : Int)) true
  | [], pre, la, rd, told, hl, hp, hla, hr, hc => by
    obtain ⟨c1, c2, c3⟩ := hc
    have hne : pre ≠ [] := fun e => by have := hp e; omega
    have hpl : 1 ≤ pre.length := by cases pre with | nil => exact absurd rfl hne | cons a b => simp
    have e1 := hla hne
    rw [List.append_nil] at e1 hl ⊢
    refine evSucc ?_
    simp only [laws_FnRecvPrefix.l2]
    rw [w64 (by omega) (by omega), e1, c2, c3, List.length_take]
    exact evNeg (by omega) (evPos (by omega) (evPos (by omega) (evPos (by omega) (evPos rfl (Ev.now _)))))
  | o :: os, pre, la, rd, told, hl, hp, hla, hr, hc => by
    obtain ⟨c1, c2, m, c3, c4, c5, c6⟩ := hc
    have hlen : (pre ++ o :: os).length = pre.length + os.length + 1 := by simp; omega
    have happ : pre ++ o :: os = (pre ++ [o]) ++ os := by simp
    have ih := l2_is h1 ht os (pre ++ [o]) o (rd + m) o.f2 (by rw [← happ]; exact hl) (fun e => absurd e (by simp)) (fun _ => by
      rw [← happ, show (((pre ++ [o]).length : Int) - 1) = (pre.length : Int) by rw [List.length_append]; simp]
      exact rd33 pre o os) c4 c6
    rw [← happ, show ((pre ++ [o]).length : Int) = (pre.length : Int) + 1 by rw [List.length_append]; simp] at ih
    have et : T.take rd ++ (T.drop rd).take m = T.take (rd + m) := List.take_add.symm
    have el : (T.take (rd + m)).length = rd + m := by rw [List.length_take]; omega
    refine evSucc ?_
    simp only [laws_FnRecvPrefix.l2]
    rw [rd33]
    refine evPos (by rw [hlen]; omega) (evPos (by omega) (evPos c1 (evSucc ?_)))
    rw [show decide (o.f2 < told) = false from decide_eq_false (by omega)]
    simp only [laws_FnRecvPrefix.j6]
    rw [rd33, c3, et, w64 (x := (pre.length : Int) + 1) (by omega) (by omega)]
    have es : T.take (((rd + m : Nat) : Int).toNat) = T.take (rd + m) := by rw [Int.toNat_natCast]
    refine evNeg (by simp) (evPos (by omega) (evPos (by rw [hlen]; omega) (evPos (by rw [List.length_take, List.length_take]; omega) (evPut rfl ?_))))
    rw [el, es]
    refine evNeg (by omega) (evPos (by omega) (evPos (by omega) (evPut (sameSelf _) (evPos rfl (evSplit (fun hf => ?_) (fun _ => ih))))))
    exact evPos (by have := c5 hf; omega) ih
theorem mn_is (a b : Int) : (mn a b = a ∧ a ≤ b) ∨ (mn a b = b ∧ b ≤ a) := by unfold mn; split <;> omega
/-! #### the cuts -/
theorem rdPre (c : List Int) (x : Int) (i : Nat) (h : i < c.length) : rd (c ++ [x]) (i : Int) = rd c (i : Int) := by
  unfold rd
  rw [Int.toNat_natCast, List.getD_eq_getElem?_getD, List.getD_eq_getElem?_getD, List.getElem?_append_left h]
theorem rdLast (c : List Int) (x : Int) : rd (c ++ [x]) (c.length : Int) = x := by
  unfold rd
  rw [Int.toNat_natCast, List.getD_eq_getElem?_getD, List.getElem?_append_right (Nat.le_refl _), Nat.sub_self]
  rfl
structure Cuts (t : Nat) (c : List Int) : Prop where
  ne : 1 ≤ c.length
  zero : rd c ((0 : Nat) : Int) = 0
  inc : ∀ i : Nat, i + 1 < c.length → rd c (i : Int) < rd c ((i + 1 : Nat) : Int) ∧ rd c ((i + 1 : Nat) : Int) ≤ rd c (i : Int) + 40
  le : ∀ i : Nat, i < c.length → rd c (i : Int) ≤ (t : Int)
theorem Cuts.mono {t : Nat} {c : List Int} (h : Cuts t c) : ∀ (d i : Nat), i + d < c.length → rd c (i : Int) + (d : Int) ≤ rd c ((i + d : Nat) : Int)
  | 0, i, _ => by simp
  | d + 1, i, hi => by
    have h1 := h.mono d i (by omega)
    have h2 := (h.inc (i + d) (by omega)).1
    have e : ((i + d + 1 : Nat) : Int) = ((i + (d + 1) : Nat) : Int) := by omega
    rw [e] at h2
    omega
theorem Cuts.ge {t : Nat} {c : List Int} (h : Cuts t c) (i : Nat) (hi : i < c.length) : (i : Int) ≤ rd c (i : Int) := by
  have := h.mono i 0 (by omega)
  rw [h.zero, Nat.zero_add] at this
  omega
theorem Cuts.find {t : Nat} {c : List Int} (h : Cuts t c) (p : Nat) : ∀ m : Nat, m < c.length → (p : Int) < rd c (m : Int) → ∃ k, k < m ∧ rd c (k : Int) ≤ (p : Int) ∧ (p : Int) < rd c ((k + 1 : Nat) : Int)
  | 0, hm, hp => by rw [h.zero] at hp; omega
  | m + 1, hm, hp => by
    by_cases hq : (p : Int) < rd c (m : Int)
    · obtain ⟨k, h1, h2, h3⟩ := h.find p m (by omega) hq
      exact ⟨k, by omega, h2, h3⟩
    · exact ⟨m, by omega, by omega, hp⟩
theorem cuts_loop {more T : List Int} (hm : more.length ≤ 1048576) (hx : ∀ x ∈ more, 0 ≤ x ∧ x ≤ 255) (ht : T.length ≤ 1000)
    (hr : ∀ c, Cuts T.length c → rd c ((c.length - 1 : Nat) : Int) = (T.length : Int) → Ev (fun k => laws_FnRecvPrefix.l1 k more T c ((c.length - 1 : Nat) : Int) [] 0) true) :
    ∀ (D : Nat) (c : List Int), Cuts T.length c → (T.length : Int) - rd c ((c.length - 1 : Nat) : Int) ≤ (D : Int) → Ev (fun k => laws_FnRecvPrefix.l0 k more T c ((c.length - 1 : Nat) : Int)) true := by
  intro D
  induction D with
  | zero =>
    intro c hc hd
    have hl := hc.le (c.length - 1) (by have := hc.ne; omega)
    have hg := hc.ge (c.length - 1) (by have := hc.ne; omega)
    have hn := hc.ne
    refine evSucc ?_
    simp only [laws_FnRecvPrefix.l0]
    rw [w64 (x := (c.length : Int) - 1) (by omega) (by omega), show (c.length : Int) - 1 = ((c.length - 1 : Nat) : Int) by omega]
    exact evPos (by omega) (evPos (by omega) (evNeg (by omega) (hr c hc (by omega))))
  | succ D ih =>
    intro c hc hd
    have hl := hc.le (c.length - 1) (by have := hc.ne; omega)
    have hg := hc.ge (c.length - 1) (by have := hc.ne; omega)
    have hn := hc.ne
    refine evSucc ?_
    simp only [laws_FnRecvPrefix.l0]
    rw [w64 (x := (c.length : Int) - 1) (by omega) (by omega), show (c.length : Int) - 1 = ((c.length - 1 : Nat) : Int) by omega]
    refine evPos (by omega) (evPos (by omega) (evSplit (fun hlt => ?_) (fun hge => hr c hc (by omega))))
    obtain ⟨a, ha, a0, a1⟩ := at_is more ((c.length - 1 : Nat) : Int) 40 (by omega) (by omega) (by omega) (by omega) hm hx
    refine evPut ha (evPos (by omega) ?_)
    rw [w64 (x := rd c ((c.length - 1 : Nat) : Int) + 1) (by omega) (by omega), w64 (x := rd c ((c.length - 1 : Nat) : Int) + 1 + a) (by omega) (by omega), w64 (x := ((c.length - 1 : Nat) : Int) + 1) (by omega) (by omega)]
    obtain ⟨x, hxx⟩ : ∃ x, x = mn (T.length : Int) (rd c ((c.length - 1 : Nat) : Int) + 1 + a) := ⟨_, rfl⟩
    rw [← hxx]
    have hb : rd c ((c.length - 1 : Nat) : Int) < x ∧ x ≤ rd c ((c.length - 1 : Nat) : Int) + 40 ∧ x ≤ (T.length : Int) := by
      have := mn_is (T.length : Int) (rd c ((c.length - 1 : Nat) : Int) + 1 + a)
      omega
    have hlen : (c ++ [x]).length = c.length + 1 := by simp
    have e1 : (((c ++ [x]).length - 1 : Nat) : Int) = (c.length : Int) := by rw [hlen]; omega
    have hc2 : Cuts T.length (c ++ [x]) := by
      refine ⟨by rw [hlen]; omega, by rw [rdPre c x 0 (by omega)]; exact hc.zero, fun i hi => ?_, fun i hi => ?_⟩
      · rw [hlen] at hi
        rw [rdPre c x i (by omega)]
        by_cases e : i + 1 = c.length
        · rw [e, rdLast, show i = c.length - 1 by omega]
          exact ⟨hb.1, hb.2.1⟩
        · rw [rdPre c x (i + 1) (by omega)]
          exact hc.inc i (by omega)
      · rw [hlen] at hi
        by_cases e : i = c.length
        · rw [e, rdLast]; exact hb.2.2
        · rw [rdPre c x i (by omega)]
          exact hc.le i (by omega)
    have := ih (c ++ [x]) hc2 (by rw [e1, rdLast]; omega)
    rw [e1] at this
    rw [show ((c.length - 1 : Nat) : Int) + 1 = (c.length : Int) by omega]
    exact this
/-! #### the pieces -/
theorem surj7 (n a k : Nat) (h7 : n % 7 ≠ 0) (ha : a < n) (hk : k < n) : ∃ j, j < n ∧ (j * 7 + a) % n = k := by
  obtain ⟨w, hw⟩ : ∃ w, (1 + n * w) % 7 = 0 := by
    have : n % 7 = 1 ∨ n % 7 = 2 ∨ n % 7 = 3 ∨ n % 7 = 4 ∨ n % 7 = 5 ∨ n % 7 = 6 := by omega
    rcases this with h | h | h | h | h | h
    · exact ⟨6, by omega⟩
    · exact ⟨3, by omega⟩
    · exact ⟨2, by omega⟩
    · exact ⟨5, by omega⟩
    · exact ⟨4, by omega⟩
    · exact ⟨1, by omega⟩
  obtain ⟨u, hu⟩ : ∃ u, 1 + n * w = 7 * u := ⟨(1 + n * w) / 7, by omega⟩
  obtain ⟨q, hq⟩ : ∃ q, q + a = k + n := ⟨k + n - a, by omega⟩
  refine ⟨(u * q) % n, Nat.mod_lt _ (by omega), ?_⟩
  have e1 : ((u * q) % n * 7 + a) % n = (u * q * 7 + a) % n := by
    rw [Nat.add_mod, Nat.mul_mod, Nat.mod_mod, ← Nat.mul_mod, ← Nat.add_mod]
  have e2 : u * q * 7 + a = k + n * (1 + w * q) := by
    have : u * q * 7 = (1 + n * w) * q := by rw [hu, Nat.mul_comm (u * q) 7, Nat.mul_assoc]
    rw [this, Nat.add_mul, Nat.one_mul, Nat.mul_add, Nat.mul_one, Nat.mul_assoc]
    omega
  rw [e1, e2, Nat.add_mul_mod_self_left, Nat.mod_eq_of_lt hk]
def piece (T c : List Int) (n k : Nat) : S28 := ⟨1, rd c (k : Int), 0, (T.take (rd c ((k + 1 : Nat) : Int)).toNat).drop (rd c (k : Int)).toNat, ((k : Int) == (n : Int) - 1)⟩
theorem piece_fine {T c : List Int} (hc : Cuts T.length c) {n : Nat} (hn : c.length = n + 1) (hl : rd c (n : Int) = (T.length : Int)) (k : Nat) (hk : k < n) : Fine T (piece T c n k) := by
  have h1 := hc.inc k (by omega)
  have h2 := hc.le (k + 1) (by omega)
  have h3 := hc.ge k (by omega)
  refine .inr ⟨rfl, (rd c (k : Int)).toNat, (rd c ((k + 1 : Nat) : Int)).toNat - (rd c (k : Int)).toNat, ?_, by omega, by omega, by omega, ?_, ?_⟩
  · show rd c (k : Int) = _; omega
  · exact List.drop_take ..
  · show ((k : Int) == (n : Int) - 1) = _
    by_cases e : k + 1 = n
    · have e1 : (k : Int) = (n : Int) - 1 := by omega
      have e2 : rd c ((k + 1 : Nat) : Int) = (T.length : Int) := by rw [e]; exact hl
      rw [decide_eq_true (by omega), e1]
      simp
    · have h4 := hc.mono (n - (k + 1)) (k + 1) (by omega)
      rw [show k + 1 + (n - (k + 1)) = n by omega, hl] at h4
      rw [decide_eq_false (by omega)]
      exact beq_eq_false_iff_ne.2 (by omega)
theorem piece_covers {T c : List Int} (hc : Cuts T.length c) {n : Nat} (hn : c.length = n + 1) (k : Nat) (hk : k < n) (p : Nat) (hp1 : rd c (k : Int) ≤ (p : Int)) (hp2 : (p : Int) < rd c ((k + 1 : Nat) : Int)) : covers (piece T c n k) p := by
  have h1 := hc.inc k (by omega)
  have h2 := hc.le (k + 1) (by omega)
  have h3 := hc.ge k (by omega)
  refine ⟨rfl, hp1, ?_⟩
  show (p : Int) < rd c (k : Int) + (((T.take (rd c ((k + 1 : Nat) : Int)).toNat).drop (rd c (k : Int)).toNat).length : Int)
  rw [List.length_drop, List.length_take]
  omega
theorem j3_is {more T c : List Int} (hm : more.length ≤ 1048576) (hx : ∀ x ∈ more, 0 ≤ x ∧ x ≤ 255) (ht : T.length ≤ 1000) (hc : Cuts T.length c) {n : Nat} (hn : c.length = n + 1) (hn1 : n ≤ 1000) (x9 : List (S28)) (h9 : x9.length ≤ 4000) (i : Nat) (hi : i ≤ 2000) (k : Nat) (hk : k < n)
    (h1 : Ev (fun q => laws_FnRecvPrefix.l1 q more T c (n : Int) (x9 ++ [piece T c n k]) ((i + 1 : Nat) : Int)) true)
    (h2 : ∀ y : Int, 1 ≤ y → Ev (fun q => laws_FnRecvPrefix.l1 q more T c (n : Int) ((x9 ++ [piece T c n k]) ++ [⟨3, 0, y, [], false⟩]) ((i + 1 : Nat) : Int)) true) :
    Ev (fun q => laws_FnRecvPrefix.j3 q more T c (n : Int) x9 (i : Int) (k : Int)) true := by
  have b1 := hc.inc k (by omega)
  have b2 := hc.le (k + 1) (by omega)
  have b3 := hc.ge k (by omega)
  obtain ⟨a, ha, a0, a1⟩ := at_is more (i : Int) 3 (by omega) (by omega) (by omega) (by omega) hm hx
  obtain ⟨a', ha', a0', a1'⟩ := at_is more ((i : Int) + 1) 90 (by omega) (by omega) (by omega) (by omega) hm hx
  refine evSucc ?_
  simp only [laws_FnRecvPrefix.j3]
  rw [w64 (x := (k : Int) + 1) (by omega) (by omega), show (k : Int) + 1 = ((k + 1 : Nat) : Int) by omega, w64 (x := (i : Int) + 1) (by omega) (by omega), w64 (x := (n : Int) - 1) (by omega) (by omega)]
  refine evPos (by omega) (evPos (by omega) (evPos (by omega) (evPos (by omega) (evPos (by omega) (evPos (by omega) (evPos (by omega) (evPut (copyL _ (by rw [List.length_drop, List.length_take]; omega)) (evPos (by omega) (evPut rfl (evPut ha ?_))))))))))
  refine evSplit (fun _ => evPut ha' ?_) (fun _ => ?_)
  · rw [w64 (x := 1 + a') (by omega) (by omega)]
    exact evPos (by rw [List.length_append]; simp; omega) (h2 (1 + a') (by omega))
  · exact h1
theorem l1_is {more T c : List Int} (hm : more.length ≤ 1048576) (hx : ∀ x ∈ more, 0 ≤ x ∧ x ≤ 255) (h1 : 1 ≤ T.length) (ht : T.length ≤ 1000) (hw : ∀ x ∈ T, (Lit.int .u8 x).wf = true) (hc : Cuts T.length c) {n : Nat} (hn : c.length = n + 1) (hl : rd c (n : Int) = (T.length : Int)) (hn0 : 1 ≤ n) (hn1 : n ≤ 1000)
    (κ : Nat → Nat) (hκ : ∀ j, j < n → κ j < n) (hsur : ∀ k, k < n → ∃ j, j < n ∧ κ j = k) (a : Int) (ha : laws_at.f more 3 (n : Int) = some a)
    (hk1 : ∀ j : Nat, j < n → (if Int.tmod (n : Int) 7 = 0 then (n : Int) - 1 - (j : Int) else Int.tmod ((j : Int) * 7 + a) (n : Int)) = (κ j : Int)) (ha0 : 0 ≤ a) (ha1 : a < n) :
    ∀ (d i : Nat) (x9 : List (S28)), i + d = n + n / 2 → (∀ op ∈ x9, Fine T op) → x9.length ≤ 2 * i → (∀ j, j < i → j < n → piece T c n (κ j) ∈ x9) → Ev (fun k => laws_FnRecvPrefix.l1 k more T c (n : Int) x9 (i : Int)) true := by
  have hdiv : Int.tdiv (n : Int) 2 = ((n / 2 : Nat) : Int) := by rw [Int.tdiv_eq_ediv_of_nonneg (by omega)]; omega
  intro d
  induction d with
  | zero =>
    intro i x9 hi hf hlen hcov
    refine evSucc ?_
    simp only [laws_FnRecvPrefix.l1]
    rw [hdiv, w64 (x := ((n / 2 : Nat) : Int)) (by omega) (by omega), w64 (x := (n : Int) + ((n / 2 : Nat) : Int)) (by omega) (by omega)]
    refine evNeg (by omega) (evPos (by omega) (evPut rfl (evSplit (fun _ => Ev.now _) (fun hle => ?_))))
    have hle2 : x9.length + 1 ≤ 400 := by rw [List.length_append] at hle; simp at hle; omega
    obtain ⟨out, o1, o2, o3⟩ := runRecv h1 ht hw x9 hf (fun p hp => by
      obtain ⟨k, k1, k2, k3⟩ := hc.find p n (by omega) (by rw [hl]; omega)
      obtain ⟨j, j1, j2⟩ := hsur k k1
      exact ⟨_, hcov j (by omega) j1, by rw [j2]; exact piece_covers hc hn k k1 p k2 k3⟩) hle2 ⟨0, 0, 0, [], false⟩
    have hl2 := l2_is h1 ht out [] ⟨0, 0, 0, [], false⟩ 0 0 (by rw [List.nil_append]; omega) (fun _ => rfl) (fun e => absurd rfl e) (Nat.zero_le _) (by
      cases out with
      | nil => simp at o2
      | cons o os => obtain ⟨q1, q2, q3⟩ := o3; exact ⟨q1, by omega, q3⟩)
    refine evBind (a := (out, 0)) o1 (evPos rfl (evSucc ?_))
    simp only [laws_FnRecvPrefix.j4]
    refine evNeg ?_ hl2
    have : (x9 ++ [(⟨3, 0, 4611686018427387903, [], false⟩ : S28)]).length = x9.length + 1 := by rw [List.length_append]; rfl
    rw [this, o2]
    simp
  | succ d ih =>
    intro i x9 hi hf hlen hcov
    have next : ∀ k, k < n → (i < n → k = κ i) → Ev (fun q => laws_FnRecvPrefix.j3 q more T c (n : Int) x9 (i : Int) (k : Int)) true := fun k hk hki => by
      have hpf := piece_fine hc hn hl k hk
      refine j3_is hm hx ht hc hn hn1 x9 (by omega) i (by omega) k hk (ih (i + 1) _ (by omega) ?_ ?_ ?_) (fun y hy => ih (i + 1) _ (by omega) ?_ ?_ ?_)
      · intro op ho
        rcases List.mem_append.1 ho with ho | ho
        · exact hf op ho
        · rw [List.mem_singleton.1 ho]; exact hpf
      · rw [List.length_append]; simp; omega
      · intro j hj hjn
        by_cases e : j = i
        · rw [e, ← hki (by omega)]; exact List.mem_append_right _ (List.mem_singleton.2 rfl)
        · exact List.mem_append_left _ (hcov j (by omega) hjn)
      · intro op ho
        rcases List.mem_append.1 ho with ho | ho
        · rcases List.mem_append.1 ho with ho | ho
          · exact hf op ho
          · rw [List.mem_singleton.1 ho]; exact hpf
        · rw [List.mem_singleton.1 ho]; exact .inl ⟨rfl, hy, rfl⟩
      · rw [List.length_append, List.length_append]; simp; omega
      · intro j hj hjn
        refine List.mem_append_left _ ?_
        by_cases e : j = i
        · rw [e, ← hki (by omega)]; exact List.mem_append_right _ (List.mem_singleton.2 rfl)
        · exact List.mem_append_left _ (hcov j (by omega) hjn)
    refine evSucc ?_
    simp only [laws_FnRecvPrefix.l1]
    rw [hdiv, w64 (x := ((n / 2 : Nat) : Int)) (by omega) (by omega), w64 (x := (n : Int) + ((n / 2 : Nat) : Int)) (by omega) (by omega), w64 (x := (n : Int) - 1) (by omega) (by omega), w64 (x := (n : Int) - 1 - (i : Int)) (by omega) (by omega), w64 (x := (i : Int) * 7) (by omega) (by omega)]
    refine evPos (by omega) (evNeg (by omega) (evSplit (fun hlt => evPut ha ?_) (fun hge => ?_)))
    · rw [w64 (x := (i : Int) * 7 + a) (by omega) (by omega)]
      have hk := hk1 i (by omega)
      have nx := next (κ i) (hκ i (by omega)) (fun _ => rfl)
      rw [← hk] at nx
      refine evSplit (fun h7 => ?_) (fun h7 => ?_)
      · rw [if_pos h7] at nx; exact nx
      · rw [if_neg h7] at nx; exact nx
    · have e : Int.tmod (i : Int) (n : Int) = ((i % n : Nat) : Int) := by rw [Int.tmod_eq_emod_of_nonneg (by omega)]; omega
      rw [e]
      exact next (i % n) (Nat.mod_lt _ (by omega)) (fun h => absurd h (by omega))
theorem FnRecvPrefix : laws_FnRecvPrefix.Pure := by
  intro l0 l1 _ _ hb _ _ hb1
  have hx : ∀ x ∈ l1, 0 ≤ x ∧ x ≤ 255 := fun x hx => wfB (hb1 x hx)
  refine evEnds ?_
  unfold laws_FnRecvPrefix.f
  refine evSplit (fun _ => evSucc ?_) (fun hlen => evSucc ?_)
  · simp only [laws_FnRecvPrefix.j0]
    exact evPos (by first | trivial | rfl) (Ev.now _)
  simp only [laws_FnRecvPrefix.j0]
  refine evSplit (fun _ => Ev.now _) (fun hlen1 => ?_)
  have hm : l1.length ≤ 1048576 := by
    have := mt (fun h => decide_eq_true (p := (l1.length : Int) > 1048576) h) hlen1
    omega
  obtain ⟨j, hj⟩ : ∃ j : Int, j = mn (l0.length : Int) 600 := ⟨_, rfl⟩
  have hj2 := mn_is (l0.length : Int) 600
  rw [← hj] at hj2 ⊢
  obtain ⟨T, hT⟩ : ∃ T, T = ([116, 101, 120, 116] : List Int) ++ l0.take j.toNat := ⟨_, rfl⟩
  have hTl : T.length = 4 + j.toNat := by rw [hT, List.length_append, List.length_take]; simp; omega
  refine evPut rfl (evPos (by omega) (evPos (by omega) (evPos (by rw [List.length_take]; simp; omega) ?_)))
  rw [← hT]
  have hw : ∀ x ∈ T, (Lit.int .u8 x).wf = true := fun x hx => by
    rw [hT] at hx
    rcases List.mem_append.1 hx with hx | hx
    · simp only [List.mem_cons, List.mem_nil_iff, or_false] at hx
      rcases hx with rfl | rfl | rfl | rfl <;> decide +kernel
    · exact hb x (List.mem_of_mem_take hx)
  have h0 : Cuts T.length [0] := ⟨by simp, rfl, fun i hi => absurd hi (by simp), fun i hi => by
    have : i = 0 := by simp at hi; exact hi
    subst this
    show (0 : Int) ≤ _; omega⟩
  have hr0 : rd ([0] : List Int) ((([0] : List Int).length - 1 : Nat) : Int) = 0 := rfl
  refine cuts_loop hm hx (by omega) (fun c hc hl => ?_) T.length [0] h0 (by rw [hr0]; omega)
  obtain ⟨n, hn⟩ : ∃ n, c.length = n + 1 := ⟨c.length - 1, by have := hc.ne; omega⟩
  rw [show c.length - 1 = n by omega] at hl ⊢
  have hn0 : 1 ≤ n := by
    by_cases e : n = 0
    · rw [e, hc.zero] at hl; omega
    · omega
  have hn1 : n ≤ 1000 := by have := hc.ge n (by omega); omega
  obtain ⟨a, ha, a0, a1⟩ := at_is l1 3 (n : Int) (by omega) (by omega) (by omega) (by omega) hm hx
  have h7 : Int.tmod (n : Int) 7 = ((n % 7 : Nat) : Int) := by rw [Int.tmod_eq_emod_of_nonneg (by omega)]; omega
  by_cases c7 : n % 7 = 0
  · exact l1_is hm hx (by omega) (by omega) hw hc hn hl hn0 hn1 (fun j => n - 1 - j) (fun j hj => by omega) (fun k hk => ⟨n - 1 - k, by omega, by omega⟩) a ha (fun j hj => by rw [h7, if_pos (by omega)]; omega) a0 a1 (n + n / 2) 0 [] (by omega) (fun op ho => absurd ho (by simp)) (by simp) (fun j hj => absurd hj (by omega))
  · exact l1_is hm hx (by omega) (by omega) hw hc hn hl hn0 hn1 (fun j => (j * 7 + a.toNat) % n) (fun j hj => Nat.mod_lt _ (by omega)) (fun k hk => surj7 n a.toNat k c7 (by omega) hk) a ha (fun j hj => by
      rw [h7, if_neg (by omega), Int.tmod_eq_emod_of_nonneg (by omega)]
      have : (j : Int) * 7 + a = ((j * 7 + a.toNat : Nat) : Int) := by omega
      rw [this]
      omega) a0 a1 (n + n / 2) 0 [] (by omega) (fun op ho => absurd ho (by simp)) (by simp) (fun j hj => absurd hj (by omega))

end Go.Proofs.Ytmhelhfkicajdaa.Pure
