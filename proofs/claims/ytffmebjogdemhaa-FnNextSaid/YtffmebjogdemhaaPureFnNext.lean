/- Of a drawn list the program tells first one of the least urgency, of these one that is not in turns, if there is one, with the least number; taken out one by one all are told, each once; no condition. -/
import Derived.Test.YtffmebjogdemhaaPFnNextx0
import Derived.Test.YtffmebjogdemhaaPFnNextx1
import Derived.Test.YtffmebjogdemhaaPFnNextx2
import Derived.Test.YtffmebjogdemhaaPFnNextx3
import Derived.Test.YtffmebjogdemhaaStmtFnNext
import Derived.Laws.BitsLemmas
set_option linter.unusedVariables false
set_option linter.unusedSimpArgs false
set_option maxRecDepth 4000
namespace Go.Proofs.Ytffmebjogdemhaa.Pure
open Go.RowKit Go.Proofs.Ytffmebjogdemhaa.PFnNext Go.Proofs.YtffmebjogdemhaaW.PrintWords Go.Proofs.YtffmebjogdemhaaW.PrintLast Go.Proofs.YtffmebjogdemhaaW.PrintMore

/-! ### tools: what a printed function comes to -/
theorem evSucc {α : Type} {g : Nat → Option α} {r : α} (h : Ev (fun k => g (k + 1)) r) : Ev g r := Ev.step (fun _ => rfl) h
theorem evPos {α : Type} {c : Prop} {dc : Decidable c} {a b : Nat → Option α} {r : α} (h : c) (e : Ev a r) : Ev (fun k => if c then a k else b k) r :=
  Ev.congr (fun _ => if_pos h) e
theorem evNeg {α : Type} {c : Prop} {dc : Decidable c} {a b : Nat → Option α} {r : α} (h : ¬ c) (e : Ev b r) : Ev (fun k => if c then a k else b k) r :=
  Ev.congr (fun _ => if_neg h) e
theorem evSplit {α : Type} {c : Prop} {dc : Decidable c} {a b : Nat → Option α} {r : α} (h : c → Ev a r) (h' : ¬ c → Ev b r) : Ev (fun k => if c then a k else b k) r := by
  by_cases hc : c
  · exact evPos hc (h hc)
  · exact evNeg hc (h' hc)
theorem evBind {α β : Type} {g : Nat → Option α} {f : Nat → α → Option β} {a : α} {r : β} (h : Ev g a) (k : Ev (fun n => f n a) r) : Ev (fun n => (g n).bind (f n)) r := Ev.bind h k
theorem evPut {α β : Type} {o : Option α} {f : Nat → α → Option β} {a : α} {r : β} (h : o = some a) (k : Ev (fun n => f n a) r) : Ev (fun n => o.bind (f n)) r :=
  Ev.congr (fun _ => by rw [h]; rfl) k
theorem evNow {α : Type} {r r' : α} (h : r = r') : Ev (fun _ => some r) r' := h ▸ Ev.now r
theorem evOf {α : Type} {o : Option α} {r : α} (h : o = some r) : Ev (fun _ => o) r := ⟨0, fun _ _ => h⟩
theorem evEnds {α : Type} {g : Nat → Option α} {r : α} (h : Ev g r) : ∃ k, g k = some r := Ev.rounds h
theorem w64 {x : Int} (h : -9223372036854775808 ≤ x) (h' : x ≤ 9223372036854775807) : wrap64 x = x := by unfold wrap64; omega
theorem w64succ (i : Nat) (h : i < 4611686018427387904) : wrap64 ((i : Int) + 1) = ((i + 1 : Nat) : Int) := by unfold wrap64; omega
theorem wfI {x : Int} (h : (Lit.int .i64 x).wf = true) : -9223372036854775808 ≤ x ∧ x ≤ 9223372036854775807 := by
  simp only [Lit.wf, IntKind.min, IntKind.max, IntKind.bits, IntKind.signed, Bool.and_eq_true, decide_eq_true_eq] at h
  simpa using h
theorem wfB {x : Int} (h : (Lit.int .u8 x).wf = true) : 0 ≤ x ∧ x ≤ 255 := by
  simp only [Lit.wf, IntKind.min, IntKind.max, IntKind.bits, IntKind.signed, Bool.and_eq_true, decide_eq_true_eq] at h
  simpa using h
theorem rdN (l : List Int) (i : Nat) (h : i < l.length) : rd l (i : Int) = l[i] := by simp [rd, List.getD_eq_getElem?_getD, h]
theorem fillStep {α : Type} (l : List α) (z : α) (i d : Nat) (h : i + (d + 1) = l.length) : (l.take i ++ List.replicate (d + 1) z).set i (l[i]'(by omega)) = l.take (i + 1) ++ List.replicate d z := by
  rw [List.set_append_right _ _ (by simp; omega), List.take_succ_eq_append_getElem (show i < l.length by omega), List.append_assoc]
  congr 1
  have e : i - (l.take i).length = 0 := by simp; omega
  rw [e]
  rfl

/-! ### the source of drawn choices -/
/-- A state of the source from which at least 'b' bytes more may be drawn. -/
structure Src (code : List Int) (b at_ seed : Int) : Prop where
  len : code.length ≤ 1048576
  byte : ∀ x ∈ code, 0 ≤ x ∧ x ≤ 255
  lo : 0 ≤ at_
  hi : at_ + b ≤ 100000000000
  s0 : 0 ≤ seed
  s1 : seed < 2147483648
theorem Src.less {code : List Int} {b b' at_ seed : Int} (h : Src code b at_ seed) (hb : b' ≤ b) : Src code b' at_ seed := ⟨h.len, h.byte, h.lo, by have := h.hi; omega, h.s0, h.s1⟩
theorem rdBy {b : List Int} (hb : ∀ x ∈ b, 0 ≤ x ∧ x ≤ 255) (i : Int) : 0 ≤ rd b i ∧ rd b i ≤ 255 := by
  unfold rd
  by_cases h : i.toNat < b.length
  · rw [List.getD_eq_getElem?_getD, List.getElem?_eq_getElem h]; exact hb _ (List.getElem_mem h)
  · simp [List.getD_eq_getElem?_getD, List.getElem?_eq_none (Nat.le_of_not_lt h)]
theorem src_byte {code : List Int} {b at_ seed : Int} (hb : 0 ≤ b) (h : Src code (b + 1) at_ seed) : ∃ r s', spec_l01Src_byte.f code at_ seed = some (r, at_ + 1, s') ∧ 0 ≤ r ∧ r ≤ 255 ∧ Src code b (at_ + 1) s' := by
  obtain ⟨h1, h2, h3, h4, h5, h6⟩ := h
  have hr := rdBy h2 at_
  unfold spec_l01Src_byte.f
  rw [if_pos ⟨h3, by omega, h5, h6, by omega⟩]
  by_cases c1 : at_ < (code.length : Int)
  · rw [if_pos c1, if_pos hr]
    exact ⟨_, _, rfl, hr.1, hr.2, h1, h2, by omega, by omega, by omega, by omega⟩
  · rw [if_neg c1]
    by_cases c2 : 4000 + 4 * (code.length : Int) < at_ + 1
    · rw [if_pos c2]
      exact ⟨_, _, rfl, by omega, by omega, h1, h2, by omega, by omega, by omega, by omega⟩
    · rw [if_neg c2]
      exact ⟨_, _, rfl, by omega, by omega, h1, h2, by omega, by omega, by omega, by omega⟩
theorem src_next {code : List Int} {b at_ seed : Int} (n : Int) (hn : n ≤ 2147483648) (hb : 0 ≤ b) (h : Src code (b + 3) at_ seed) :
    ∃ r a' s', spec_l01Src_next.f code at_ seed n = some (r, a', s') ∧ 0 ≤ r ∧ (1 ≤ n → r < n) ∧ (n ≤ 1 → r = 0) ∧ Src code b a' s' := by
  unfold spec_l01Src_next.f
  by_cases c1 : n ≤ 1
  · rw [if_pos c1]
    exact ⟨0, at_, seed, rfl, by omega, by omega, fun _ => rfl, h.less (by omega)⟩
  rw [if_neg c1]
  by_cases c2 : n ≤ 256
  · rw [if_pos c2]
    obtain ⟨r, s', e, h0, h1, h'⟩ := src_byte (b := b + 2) (by omega) (h.less (by omega))
    rw [e]
    simp only [Option.bind_some]
    rw [if_neg (by omega), Int.tmod_eq_emod_of_nonneg h0]
    exact ⟨_, _, _, rfl, Int.emod_nonneg _ (by omega), fun _ => Int.emod_lt_of_pos _ (by omega), by omega, h'.less (by omega)⟩
  · rw [if_neg c2]
    obtain ⟨r1, s1, e1, g0, g1, h1⟩ := src_byte (b := b + 2) (by omega) (h.less (by omega))
    rw [e1]
    simp only [Option.bind_some]
    obtain ⟨r2, s2, e2, g2, g3, h2⟩ := src_byte (b := b + 1) (by omega) (h1.less (by omega))
    rw [e2]
    simp only [Option.bind_some]
    obtain ⟨r3, s3, e3, g4, g5, h3⟩ := src_byte (b := b) hb h2
    rw [e3]
    simp only [Option.bind_some]
    rw [if_neg (by omega), w64 (x := r1 * 65536) (by omega) (by omega), w64 (x := r2 * 256) (by omega) (by omega), w64 (x := r1 * 65536 + r2 * 256) (by omega) (by omega), w64 (x := r1 * 65536 + r2 * 256 + r3) (by omega) (by omega), Int.tmod_eq_emod_of_nonneg (by omega)]
    exact ⟨_, _, _, rfl, Int.emod_nonneg _ (by omega), fun _ => Int.emod_lt_of_pos _ (by omega), by omega, h3⟩
theorem src_chance {code : List Int} {b at_ seed : Int} (n : Int) (hn : n ≤ 2147483648) (hb : 0 ≤ b) (h : Src code (b + 3) at_ seed) :
    ∃ r a' s', spec_l01Src_chance.f code at_ seed n = some (r, a', s') ∧ Src code b a' s' := by
  unfold spec_l01Src_chance.f
  obtain ⟨r, a', s', e, _, _, _, h'⟩ := src_next n hn hb h
  rw [e]
  exact ⟨_, _, _, rfl, h'⟩
theorem src_start (code : List Int) (h1 : code.length ≤ 1048576) (h2 : ∀ x ∈ code, 0 ≤ x ∧ x ≤ 255) : Src code 99999999999 0 ((code.length : Int) % 1000) := ⟨h1, h2, by omega, by omega, by omega, by omega⟩

/-! ### which stream comes next -/
theorem ahead_same (a b c : Int) (d : Bool) (a' b' c' : Int) (d' : Bool) : impl_sooner.f a b c d a' b' c' d' = spec_l15Ahead.f a b c d a' b' c' d' := by
  unfold impl_sooner.f spec_l15Ahead.f
  cases d <;> cases d' <;> simp
theorem ahead_some (a b c : Int) (d : Bool) (a' b' c' : Int) (d' : Bool) : ∃ r, spec_l15Ahead.f a b c d a' b' c' d' = some r := by
  unfold spec_l15Ahead.f
  repeat' split
  all_goals exact ⟨_, rfl⟩
theorem ahead_self (a b c : Int) (d : Bool) : spec_l15Ahead.f a b c d a b c d = some false := by
  unfold spec_l15Ahead.f
  cases d <;> simp
theorem ns_loop (l : List S73) (hl : l.length < 4611686018427387904) : ∀ (d i best : Nat), i + d = l.length → best < l.length →
    ∃ r : Int, Ev (fun k => spec_NextStream.l0 k l (best : Int) (i : Int)) r ∧ Ev (fun k => impl_NextStream.l0 k l (best : Int) l (l.length : Int) (i : Int)) r := by
  intro d
  induction d with
  | zero =>
    intro i best h hb
    refine ⟨best, evSucc ?_, evSucc ?_⟩
    · simp only [spec_NextStream.l0]
      exact evNeg (by omega) (Ev.now _)
    · simp only [impl_NextStream.l0]
      exact evNeg (by omega) (Ev.now _)
  | succ d ih =>
    intro i best h hb
    obtain ⟨x, hx⟩ := ahead_some (rd_T73 l (i : Int)).f0 (rd_T73 l (i : Int)).f1 (rd_T73 l (i : Int)).f2 (rd_T73 l (i : Int)).f3 (rd_T73 l (best : Int)).f0 (rd_T73 l (best : Int)).f1 (rd_T73 l (best : Int)).f2 (rd_T73 l (best : Int)).f3
    obtain ⟨r, h1, h2⟩ := ih (i + 1) (if x = true then i else best) (by omega) (by split <;> omega)
    refine ⟨r, evSucc ?_, evSucc ?_⟩
    · simp only [spec_NextStream.l0]
      refine evPos (by omega) (evPos (by omega) (evPos (by omega) (evPos (by omega) (evPut hx ?_))))
      rw [w64succ i (by omega)]
      cases x
      · refine evNeg (by simp) ?_
        simpa using h1
      · refine evPos rfl ?_
        simpa using h1
    · simp only [impl_NextStream.l0]
      refine evPos (by omega) (evPos (by omega) (evPos (by omega) (evPos (by omega) (evPos (by omega) (evPut ((ahead_same _ _ _ _ _ _ _ _).trans hx) ?_)))))
      rw [w64succ i (by omega)]
      cases x
      · refine evNeg (by simp) ?_
        simpa using h2
      · refine evPos rfl ?_
        simpa using h2
theorem nextStream_same (l : List S73) (hl : l.length < 4611686018427387904) : ∃ r : Int, Ev (fun k => spec_NextStream.f k l) r ∧ Ev (fun k => impl_NextStream.f k l) r := by
  have sj : ∀ x, x = true → Ev (fun k => spec_NextStream.j0 k l x) (-1) := by
    intro x hx
    refine evSucc ?_
    simp only [spec_NextStream.j0]
    exact evPos hx (Ev.now _)
  have ij : ∀ x, x = true → Ev (fun k => impl_NextStream.j0 k l x) (-1) := by
    intro x hx
    refine evSucc ?_
    simp only [impl_NextStream.j0]
    exact evPos hx (Ev.now _)
  unfold spec_NextStream.f impl_NextStream.f
  by_cases h0 : (l.length : Int) = 0
  · exact ⟨-1, evPos h0 (sj _ rfl), evPos h0 (ij _ rfl)⟩
  · by_cases h1 : (l.length : Int) > 4096
    · exact ⟨-1, evNeg h0 (sj _ (decide_eq_true h1)), evNeg h0 (ij _ (decide_eq_true h1))⟩
    · obtain ⟨r, h2, h3⟩ := ns_loop l hl (l.length - 1) 1 0 (by omega) (by omega)
      refine ⟨r, evNeg h0 (evSucc ?_), evNeg h0 (evSucc ?_)⟩
      · simp only [spec_NextStream.j0]
        exact evNeg (by simpa using h1) h2
      · simp only [impl_NextStream.j0]
        refine evNeg (by simpa using h1) (evSucc ?_)
        simp only [impl_NextStream.l0]
        refine evPos (by omega) (evPos (by omega) (evPos (by omega) (evPos (by omega) (evPos (by omega) (evPut ((ahead_same _ _ _ _ _ _ _ _).trans (ahead_self _ _ _ _)) (evNeg (by simp) ?_))))))
        rw [w64 (x := 0 + 1) (by omega) (by omega)]
        exact h3

/-! ### the order in which streams are sent -/
def so (a b : S73) : Bool :=
  if a.f1 = b.f1 then (if (a.f3 != b.f3) = true then !a.f3 else if a.f3 = true then (if a.f2 = b.f2 then decide (a.f0 < b.f0) else decide (a.f2 < b.f2)) else decide (a.f0 < b.f0)) else decide (a.f1 < b.f1)
theorem so_is (a b : S73) : impl_sooner.f a.f0 a.f1 a.f2 a.f3 b.f0 b.f1 b.f2 b.f3 = some (so a b) := by
  unfold impl_sooner.f so
  repeat' split
  all_goals rfl
theorem so_iff (a b : S73) : so a b = true ↔ a.f1 < b.f1 ∨ a.f1 = b.f1 ∧ (a.f3 = false ∧ b.f3 = true ∨ a.f3 = true ∧ b.f3 = true ∧ (a.f2 < b.f2 ∨ a.f2 = b.f2 ∧ a.f0 < b.f0) ∨ a.f3 = false ∧ b.f3 = false ∧ a.f0 < b.f0) := by
  unfold so
  by_cases c1 : a.f1 = b.f1
  · rw [if_pos c1]
    by_cases c2 : a.f2 = b.f2 <;> cases a.f3 <;> cases b.f3 <;> simp [c1, c2]
  · rw [if_neg c1]
    simp [c1]
theorem so_trans (a b c : S73) (h1 : so a b = true) (h2 : so b c = true) : so a c = true := by
  rw [so_iff] at *
  cases ha : a.f3 <;> cases hb : b.f3 <;> cases hc : c.f3 <;> simp [ha, hb, hc] at h1 h2 ⊢ <;> omega
theorem so_self (a : S73) : so a a = false := by
  obtain ⟨a0, a1, a2, a3⟩ := a
  unfold so
  cases a3 <;> simp
theorem best_loop (l : List S73) (hl : l.length < 4611686018427387904) : ∀ (d i best : Nat), i + d = l.length → best < l.length → (∀ j : Nat, j < i → so (rd_T73 l (j : Int)) (rd_T73 l (best : Int)) = false) →
    ∃ r : Nat, r < l.length ∧ Ev (fun k => impl_NextStream.l0 k l (best : Int) l (l.length : Int) (i : Int)) (r : Int) ∧ ∀ j : Nat, j < l.length → so (rd_T73 l (j : Int)) (rd_T73 l (r : Int)) = false := by
  intro d
  induction d with
  | zero =>
    intro i best h hb hj
    refine ⟨best, hb, evSucc ?_, fun j hj' => hj j (by omega)⟩
    simp only [impl_NextStream.l0]
    exact evNeg (by omega) (Ev.now _)
  | succ d ih =>
    intro i best h hb hj
    have hs := so_is (rd_T73 l (i : Int)) (rd_T73 l (best : Int))
    cases hx : so (rd_T73 l (i : Int)) (rd_T73 l (best : Int)) with
    | true =>
      obtain ⟨r, hr, e, hall⟩ := ih (i + 1) i (by omega) (by omega) (by
        intro j hj'
        by_cases hji : j = i
        · subst hji; exact so_self _
        · cases hq : so (rd_T73 l (j : Int)) (rd_T73 l (i : Int)) with
          | false => rfl
          | true =>
            have := so_trans _ _ _ hq hx
            rw [hj j (by omega)] at this
            exact this.symm)
      refine ⟨r, hr, evSucc ?_, hall⟩
      simp only [impl_NextStream.l0]
      refine evPos (by omega) (evPos (by omega) (evPos (by omega) (evPos (by omega) (evPos (by omega) (evPut (hs.trans (by rw [hx])) (evPos rfl ?_))))))
      rw [w64succ i (by omega)]
      exact e
    | false =>
      obtain ⟨r, hr, e, hall⟩ := ih (i + 1) best (by omega) hb (by
        intro j hj'
        by_cases hji : j = i
        · subst hji; exact hx
        · exact hj j (by omega))
      refine ⟨r, hr, evSucc ?_, hall⟩
      simp only [impl_NextStream.l0]
      refine evPos (by omega) (evPos (by omega) (evPos (by omega) (evPos (by omega) (evPos (by omega) (evPut (hs.trans (by rw [hx])) (evNeg (by simp) ?_))))))
      rw [w64succ i (by omega)]
      exact e
theorem best_of (l : List S73) (h0 : 0 < l.length) (h1 : l.length ≤ 4096) :
    ∃ r : Nat, r < l.length ∧ Ev (fun k => impl_NextStream.f k l) (r : Int) ∧ ∀ j : Nat, j < l.length → so (rd_T73 l (j : Int)) (rd_T73 l (r : Int)) = false := by
  obtain ⟨r, hr, e, hall⟩ := best_loop l (by omega) l.length 0 0 (by omega) h0 (by omega)
  refine ⟨r, hr, ?_, hall⟩
  unfold impl_NextStream.f
  refine evNeg (by omega) (evSucc ?_)
  simp only [impl_NextStream.j0]
  exact evNeg (by simp; omega) e
/-! ### a drawn list -/
theorem draw_ns (code : List Int) (h1 : code.length ≤ 1048576) (h2 : ∀ x ∈ code, 0 ≤ x ∧ x ≤ 255) : ∃ l : List S73, l.length ≤ 5000 ∧ (∀ x ∈ l, 0 ≤ x.f1) ∧ Ev (fun k => spec_DrawNextStream.f k code) l := by
  have h := src_start code h1 h2
  have hsz : ∃ n : Int, n ≤ 12 ∧ 0 ≤ n ∧ spec_l01Src_size.f code 0 ((code.length : Int) % 1000) 12 = some (n, 0, (code.length : Int) % 1000) := by
    unfold spec_l01Src_size.f
    rw [w64 (x := (code.length : Int) / 12) (by omega) (by omega), w64 (x := 1 + (code.length : Int) / 12) (by omega) (by omega)]
    refine ⟨_, ?_, ?_, rfl⟩ <;> unfold mn <;> split <;> omega
  obtain ⟨n, hn1, hn0, esz⟩ := hsz
  obtain ⟨m, a1, s1, e1, p1, q1, q1', g1⟩ := src_next (b := 100000) (n + 1) (by omega) (by omega) (h.less (by omega))
  have loop : ∀ (d : Nat) (l : List S73) (a s : Int), l.length + d ≤ 12 → (∀ x ∈ l, 0 ≤ x.f1) → Src code (100 + 12 * d) a s → ∃ l' : List S73, l'.length ≤ 5000 ∧ (∀ x ∈ l', 0 ≤ x.f1) ∧ Ev (fun k => spec_DrawNextStream.l0 k l (d : Int) code a s) l' := by
    intro d
    induction d with
    | zero =>
      intro l a s hl hu g
      obtain ⟨c, a2, s2, e2, g2⟩ := src_chance (b := 50) 60 (by omega) (by omega) (g.less (by omega))
      obtain ⟨r3, a3, s3, e3, p3, q3, _, g3⟩ := src_next (b := 40) 2 (by omega) (by omega) (g2.less (by omega))
      have q3 := q3 (by omega)
      cases c with
      | true =>
        refine ⟨List.replicate (4096 + r3).toNat z73, by simp; omega, fun x hx => by rw [(List.mem_replicate.1 hx).2]; exact Int.le_refl 0, evSucc ?_⟩
        simp only [spec_DrawNextStream.l0]
        have ew : wrap64 (4096 + r3) = 4096 + r3 := w64 (by omega) (by omega)
        exact evNeg (by omega) (evPut e2 (evPos (by first | rfl | trivial) (evPut e3 (evPos (by dsimp only; rw [ew]; omega) (evPos (by dsimp only; rw [ew]; omega) (evNow (by dsimp only; rw [ew])))))))
      | false =>
        refine ⟨l, by omega, hu, evSucc ?_⟩
        simp only [spec_DrawNextStream.l0]
        exact evNeg (by omega) (evPut e2 (evNeg (by simp) (evNow rfl)))
    | succ d ih =>
      intro l a s hl hu g
      obtain ⟨r1, a1, s1, e1, _, _, _, g1⟩ := src_next (b := 109 + 12 * d) 8 (by omega) (by omega) (g.less (by omega))
      obtain ⟨r2, a2, s2, e2, p2, _, _, g2⟩ := src_next (b := 106 + 12 * d) 4 (by omega) (by omega) (g1.less (by omega))
      obtain ⟨r3, a3, s3, e3, _, _, _, g3⟩ := src_next (b := 103 + 12 * d) 3 (by omega) (by omega) (g2.less (by omega))
      obtain ⟨c, a4, s4, e4, g4⟩ := src_chance (b := 100 + 12 * d) 2 (by omega) (by omega) (g3.less (by omega))
      obtain ⟨l', hl', hu', e'⟩ := ih (l ++ [⟨wrap64 (4 * r1), r2, r3, c⟩]) a4 s4 (by simp; omega) (by
        intro x hx
        rcases List.mem_append.1 hx with hx | hx
        · exact hu x hx
        · rw [List.mem_singleton.1 hx]; exact p2) g4
      refine ⟨l', hl', hu', evSucc ?_⟩
      simp only [spec_DrawNextStream.l0]
      refine evPos (by omega) (evPut e1 (evPut e2 (evPut e3 (evPut e4 (evPos (by omega) ?_)))))
      have e5 : wrap64 (((d + 1 : Nat) : Int) - 1) = (d : Int) := by rw [w64 (by omega) (by omega)]; omega
      rw [e5]
      exact e'
  obtain ⟨l, hl, hu, e⟩ := loop m.toNat [] a1 s1 (by
    by_cases hh : 1 ≤ n + 1
    · have := q1 hh
      simp; omega
    · simp; omega) (by simp) (g1.less (by
    by_cases hh : 1 ≤ n + 1
    · have := q1 hh
      omega
    · omega))
  refine ⟨l, hl, hu, ?_⟩
  unfold spec_DrawNextStream.f spec_l01Source.f
  refine evPut rfl (evPut esz (evPut (by rw [w64 (x := n + 1) (by omega) (by omega)]; exact e1) ?_))
  have e5 : ((m.toNat : Nat) : Int) = m := by omega
  rw [e5] at e
  exact e
/-! ### all are told, each once, and urgencies never fall -/
theorem rdW (l : List S73) (i : Nat) (h : i < l.length) : rd_T73 l (i : Int) = l[i] := by simp [rd_T73, List.getD_eq_getElem?_getD, h]
theorem inner (l : List S73) (hl : l.length ≤ 60) (old : Int) (r : Nat) (hr : r < l.length) (x : S73) (hall : ∀ j : Nat, j < l.length → so (rd_T73 l (j : Int)) x = false)
    (hold : ¬ x.f1 < old) (next : Ev (fun k => laws_FnNext.l0 k (([] ++ l.take r) ++ l.drop (r + 1)) x.f1) true) : ∀ (d i : Nat), i + d = l.length → Ev (fun k => laws_FnNext.l1 k l old (r : Int) (i : Int) x.f0 x.f1 x.f2 x.f3) true := by
  intro d
  induction d with
  | zero =>
    intro i h
    refine evSucc ?_
    simp only [laws_FnNext.l1]
    rw [w64succ r (by omega), Int.toNat_natCast, Int.toNat_natCast]
    refine evNeg (by omega) (evNeg hold (evPut rfl (evPos (by omega) (evPos (by omega) (evPut rfl (evPos (by simp; omega) (evPut rfl (evPos (by omega) (evPos (by omega) (evPut rfl (evPos (by simp; omega) ?_)))))))))))
    exact next
  | succ d ih =>
    intro i h
    have hi := hall i (by omega)
    have rest := ih (i + 1) (by omega)
    refine evSucc ?_
    simp only [laws_FnNext.l1]
    rw [w64succ i (by omega)]
    refine evPos (by omega) (evPos (by omega) ?_)
    generalize rd_T73 l (i : Int) = y at *
    unfold so at hi
    by_cases c1 : y.f1 = x.f1
    · rw [if_pos c1] at hi
      refine evNeg (by omega) (evPos c1 ?_)
      cases hx : x.f3 <;> cases hy : y.f3 <;> rw [hx, hy] at hi <;> simp at hi
      · exact evNeg (by simp) (evNeg (by simp) (evNeg (by omega) (by have q := rest; rw [hx] at q; exact q)))
      · exact evNeg (by simp) (evPos rfl (by have q := rest; rw [hx] at q; exact q))
      · refine evPos rfl (evPos rfl (evPos (by first | rfl | trivial) (evNeg ?_ (by have q := rest; rw [hx] at q; exact q))))
        split at hi <;> omega
    · rw [if_neg c1] at hi
      simp at hi
      exact evNeg (by omega) (evNeg c1 rest)
theorem outer : ∀ (n : Nat) (l : List S73) (old : Int), l.length = n → n ≤ 60 → (∀ x ∈ l, old ≤ x.f1) → Ev (fun k => laws_FnNext.l0 k l old) true := by
  intro n
  induction n with
  | zero =>
    intro l old hl hn h
    have hnil : l = [] := List.eq_nil_of_length_eq_zero hl
    subst hnil
    refine evSucc ?_
    simp only [laws_FnNext.l0]
    refine evNeg (by simp) (evBind (a := (-1 : Int)) ?_ (evNow rfl))
    unfold impl_NextStream.f
    refine evPos rfl (evSucc ?_)
    simp only [impl_NextStream.j0]
    exact evPos (by first | rfl | trivial) (Ev.now _)
  | succ n ih =>
    intro l old hl hn h
    obtain ⟨r, hr, e, hall⟩ := best_of l (by omega) (by omega)
    have hx := rdW l r hr
    have next := ih (([] ++ l.take r) ++ l.drop (r + 1)) (rd_T73 l (r : Int)).f1 (by simp; omega) (by omega) (by
      intro y hy
      have hy2 : y ∈ l := by
        rcases List.mem_append.1 hy with hy | hy
        · exact List.mem_of_mem_take (by simpa using hy)
        · exact List.mem_of_mem_drop hy
      obtain ⟨j, hj, hjy⟩ := List.mem_iff_getElem.1 hy2
      have := hall j hj
      rw [rdW l j hj, hjy] at this
      unfold so at this
      split at this
      · omega
      · simp at this; omega)
    have hold : ¬ (rd_T73 l (r : Int)).f1 < old := by
      have := h _ (List.getElem_mem hr)
      rw [hx]
      omega
    have hin := inner l (by omega) old r hr _ hall hold next l.length 0 (by omega)
    refine evSucc ?_
    simp only [laws_FnNext.l0]
    refine evPos (by omega) (evPut rfl (evPos (by simp; omega) (evBind (a := (r : Int)) (by simpa using e) (evNeg (by omega) (evSucc ?_)))))
    simp only [laws_FnNext.j1]
    exact evNeg (by simp; omega) (evPos (by omega) (evPos (by omega) hin))

theorem FnNext : laws_FnNext.Stmt := by
  intro code ⟨_, hw⟩ hl
  have hB : ∀ x ∈ code, 0 ≤ x ∧ x ≤ 255 := fun x hx => wfB (hw x hx)
  refine evEnds ?_
  unfold laws_FnNext.f
  refine evSplit (fun _ => Ev.now _) (fun h1 => ?_)
  obtain ⟨l, hl2, hu, e⟩ := draw_ns code (by omega) hB
  refine evBind e ?_
  by_cases c : (l.length : Int) > 60
  · obtain ⟨r, e1, e2⟩ := nextStream_same l (by omega)
    exact evPos c (evBind e2 (evBind e1 (evNow (by simp))))
  · refine evNeg c ?_
    exact outer l.length l (-1) rfl (by omega) (fun x hx => by have := hu x hx; omega)

end Go.Proofs.Ytffmebjogdemhaa.Pure
