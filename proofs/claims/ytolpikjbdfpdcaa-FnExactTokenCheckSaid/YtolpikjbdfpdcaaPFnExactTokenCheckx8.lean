-- Written by a program of this repo (xprint.py) out of the translation; Lean checks it.
import Derived.Test.YtolpikjbdfpdcaaPFnExactTokenCheckx0
import Derived.Test.YtolpikjbdfpdcaaPFnExactTokenCheckx7
namespace Go.Proofs.Ytolpikjbdfpdcaa.PFnExactTokenCheck
open Go.RowKit Go.Proofs.YtolpikjbdfpdcaaW.PrintWords Go.Proofs.YtolpikjbdfpdcaaW.PrintLast Go.Proofs.YtolpikjbdfpdcaaW.PrintMore
attribute [local go_sem] max2_int min2_int max_two min_two max_three min_three max_four min_four   -- for this text's walks alone
set_option linter.unusedVariables false
set_option linter.unusedSimpArgs false

/-! ### impl_digest: function 71 -/
def impl_digest.iter : Nat → Int → Int → Int → Int → Option (Int × Int × Int × Int)
  | 0, a, b, c, d => some (a, b, c, d)
  | n + 1, a, b, c, d => (impl_stirrer_stir.f a b c d [165]).bind fun s => impl_digest.iter n s.1 s.2.1 s.2.2.1 s.2.2.2
def impl_digest.f (k : Nat) (l0 : List Int) (l1 : List Int) : Option (List Int) :=
  (impl_fixed.f k [] (l0.length : Int) 4).bind fun t1 =>
  (impl_stirrer_stir.f 1779033703 3144134277 1013904242 2773480762 t1).bind fun s1 =>
  (impl_stirrer_stir.f s1.1 s1.2.1 s1.2.2.1 s1.2.2.2 l0).bind fun s2 =>
  (impl_stirrer_stir.f s2.1 s2.2.1 s2.2.2.1 s2.2.2.2 l1).bind fun s3 =>
  (impl_fixed.f k [] (l1.length : Int) 4).bind fun t2 =>
  (impl_stirrer_stir.f s3.1 s3.2.1 s3.2.2.1 s3.2.2.2 t2).bind fun s4 =>
  (impl_digest.iter 16 s4.1 s4.2.1 s4.2.2.1 s4.2.2.2).bind fun s5 =>
  (impl_fixed.f k [] (wrap64 s5.1) 4).bind fun o1 =>
  (impl_fixed.f k o1 (wrap64 s5.2.1) 4).bind fun o2 =>
  (impl_fixed.f k o2 (wrap64 s5.2.2.1) 4).bind fun o3 =>
  impl_fixed.f k o3 (wrap64 s5.2.2.2) 4
theorem impl_digest.mono : ∀ a0 a1 k, LeO (impl_digest.f k a0 a1) (impl_digest.f (k + 1) a0 a1) := by
  intro a0 a1 k
  unfold impl_digest.f
  repeat' first
      | (with_reducible exact impl_fixed.mono _ _ _ _)
      | (with_reducible exact LeO.refl _)
      | (with_reducible refine LeO.bind ?_ (fun _ => ?_))
      | exact impl_fixed.mono _ _ _ _
theorem ownBlk {A : Addr} {n c k : Nat} (h : (Value.slice (some A) n c).ownBlock = some k) : A.block = k := by
  simpa [Value.ownBlock] using h
theorem litRead (W : World) (v : Int) (e : Nat) : Kd.C (Kd.int .u8) (W.alloc (.cells #[.int .u8 v] e)) (some ⟨W.heap.size, 0, none⟩) ([v] : List Int).length [v] := by
  refine ⟨rfl, by simp, fun _ => ⟨⟨W.heap.size, 0, none⟩, rfl, ?_⟩⟩
  intro j p hj
  cases j with
  | succ j => simp at hj
  | zero =>
    simp at hj
    subst hj
    refine ⟨[.int .u8 v], rfl, rfl, ?_⟩
    intro i u hi
    cases i with
    | succ i => simp at hi
    | zero =>
      simp at hi
      subst hi
      exact (blk_cell (blk_new W (.cells #[.int .u8 v] e)) 0).trans rfl
theorem fixedNew (k : Nat) (v n : Int) (t : List Int) (w : World) (h : impl_fixed.f k [] v n = some t) :
    Calls Try.prog 72 #[.slice none 0 0, .int .i64 v, .int .i64 n] w fun e w' => ∃ A c, e = .returned (.slice A t.length c) ∧ t.length ≤ c ∧ Kd.C (Kd.int .u8) w' A t.length t ∧ (∀ ad, A = some ad → 0 < t.length → w.heap.size ≤ ad.block) ∧ Below w.heap.size w w' := by
  refine (impl_fixed.calls k (fun _ => False) (.slice none 0 0) [] v n t w w (Below.refl _ _) (Kd.R_nil _ _ _ _ _) h).mono ?_
  rintro e w' ⟨v0, rfl, hR, hB, _⟩
  obtain ⟨A, c, rfl, hl, hC⟩ := Kd.R_reads hR
  refine ⟨A, c, rfl, hl, hC, ?_, hB⟩
  rintro ad rfl hn
  rcases hR.1 ad.block (by simp [Value.ownBlock]) with h | h
  · exact h.elim
  · exact h
set_option maxHeartbeats 8000000 in
set_option maxRecDepth 100000 in
theorem impl_digest.calls (k : Nat) (A0 : Option Addr) (c0 : Nat) (l0 : List Int) (A1 : Option Addr) (c1 : Nat) (l1 : List Int) (r : List Int) (w : World) (hr0 : Kd.C (Kd.int .u8) w A0 l0.length l0) (hc0 : l0.length ≤ c0) (hr1 : Kd.C (Kd.int .u8) w A1 l1.length l1) (hc1 : l1.length ≤ c1) (h : impl_digest.f k l0 l1 = some r) :
    Calls Try.prog 71 #[.slice A0 l0.length c0, .slice A1 l1.length c1] w fun e w' => ∃ v0_ : Value, e = .returned (v0_) ∧ Kd.R (Kd.int .u8) 5 w' w.heap.size (fun _ => True) v0_ r ∧ Below w.heap.size w w' := by
  have HR0 := Aside0.mk hr0
  have HR1 := Aside0.mk hr1
  have HC0 := Aside0.mk hc0
  have HC1 := Aside0.mk hc1
  clear hr0 hr1 hc0 hc1
  unfold impl_digest.f at h
  simp only [Option.bind_eq_some_iff] at h
  obtain ⟨t1, ht1, ⟨a1, b1, x1, d1⟩, hs1, ⟨a2, b2, x2, d2⟩, hs2, ⟨a3, b3, x3, d3⟩, hs3, t2, ht2, ⟨a4, b4, x4, d4⟩, hs4, ⟨a5, b5, x5, d5⟩, hs5, o1, ho1, o2, ho2, o3, ho3, ho4⟩ := h
  have HT1 := Aside0.mk ht1
  have HS1 := Aside0.mk hs1
  have HS2 := Aside0.mk hs2
  have HS3 := Aside0.mk hs3
  have HT2 := Aside0.mk ht2
  have HS4 := Aside0.mk hs4
  have HS5 := Aside0.mk hs5
  have HO1 := Aside0.mk ho1
  have HO2 := Aside0.mk ho2
  have HO3 := Aside0.mk ho3
  have HO4 := Aside0.mk ho4
  clear ht1 hs1 hs2 hs3 ht2 hs4 hs5 ho1 ho2 ho3 ho4
  go_enter Try.func71, Try.ntmps71
  go_wp2_with (fail)
  refine (fixedNew k _ _ t1 _ HT1.out).mono ?_
  rintro e W1 ⟨A2, c2, rfl, hc2, hC2, hf2, hb2⟩
  have HB1 := Aside0.mk (below_then (below_alloc (Below.refl w.heap.size w) _) (by simp) hb2)
  have HI1 := Aside0.mk ((IsS157.new w w 1779033703 3144134277 1013904242 2773480762 (Below.refl _ _)).below hb2)
  have HF2 := Aside0.mk (fun ad (h : A2 = some ad) (hn : 0 < t1.length) => (show ad.block ≠ w.heap.size from by have := hf2 ad h hn; simp at this; omega))
  have HC2 := Aside0.mk hC2
  have HL2 := Aside0.mk hc2
  clear hc2 hC2 hf2 hb2
  go_wp2_with (fail)
  refine (impl_stirrer_stir.calls w.heap.size _ _ _ _ A2 c2 t1 a1 b1 x1 d1 w W1 HI1.out HB1.out HC2.out HL2.out HF2.out HS1.out).mono ?_
  rintro e W2 ⟨rfl, hI2, hB2, _⟩
  have HI2 := Aside0.mk hI2
  have HB2 := Aside0.mk hB2
  clear hI2 hB2
  go_wp2_with (fail)
  refine (impl_stirrer_stir.calls w.heap.size _ _ _ _ A0 c0 l0 a2 b2 x2 d2 w W2 HI2.out HB2.out (Kd.C_below HR0.out HB2.out) HC0.out (fun ad h hn => by subst h; have := Kd.C_lt HR0.out hn (by decide); omega) HS2.out).mono ?_
  rintro e W3 ⟨rfl, hI3, hB3, _⟩
  have HI3 := Aside0.mk hI3
  have HB3 := Aside0.mk hB3
  clear hI3 hB3
  go_wp2_with (fail)
  refine (impl_stirrer_stir.calls w.heap.size _ _ _ _ A1 c1 l1 a3 b3 x3 d3 w W3 HI3.out HB3.out (Kd.C_below HR1.out HB3.out) HC1.out (fun ad h hn => by subst h; have := Kd.C_lt HR1.out hn (by decide); omega) HS3.out).mono ?_
  rintro e W4 ⟨rfl, hI4, hB4, _⟩
  have HI4 := Aside0.mk hI4
  have HB4 := Aside0.mk hB4
  clear hI4 hB4
  go_wp2_with (fail)
  refine (fixedNew k _ _ t2 _ HT2.out).mono ?_
  rintro e W5 ⟨A3, c3, rfl, hc3, hC3, hf3, hb3⟩
  have HB5 := Aside0.mk (below_then HB4.out HB4.out.size hb3)
  have HI5 := Aside0.mk (HI4.out.below hb3)
  have HF3 := Aside0.mk (fun ad (h : A3 = some ad) (hn : 0 < t2.length) => (show ad.block ≠ w.heap.size from by have := hf3 ad h hn; have := IsS157.lt HI4.out; omega))
  have HC3 := Aside0.mk hC3
  have HL3 := Aside0.mk hc3
  clear hc3 hC3 hf3 hb3
  go_wp2_with (fail)
  refine (impl_stirrer_stir.calls w.heap.size _ _ _ _ A3 c3 t2 a4 b4 x4 d4 w W5 HI5.out HB5.out HC3.out HL3.out HF3.out HS4.out).mono ?_
  rintro e W6 ⟨rfl, hI6, hB6, _⟩
  have HI6 := Aside0.mk hI6
  have HB6 := Aside0.mk hB6
  clear hI6 hB6
  go_wp2_with (fail)
  go_loopg [27] 16 (fun kq v27 w' => ∃ (x a b c d : Int), v27 = .int .i64 x ∧ Aside0 (0 ≤ x ∧ x + kq = 16) ∧ Aside0 (impl_digest.iter kq a b c d = some (a5, b5, x5, d5)) ∧ Aside0 (IsS157 w w' w.heap.size a b c d) ∧ Aside0 (Below w.heap.size w w'))
  case atStart => exact ⟨0, a4, b4, x4, d4, rfl, ⟨by omega⟩, HS5, HI6, HB6⟩
  case round =>
    obtain ⟨x, a, b, c, d, rfl, Hk, HA, HI, HB⟩ := hrel
    have h0 : 0 ≤ x := Hk.out.1
    by_cases hlt : x < 16
    · obtain ⟨m, rfl⟩ : ∃ m, gk = m + 1 := ⟨gk - 1, by have := Hk.out.2; omega⟩
      have ha := HA.out
      simp only [impl_digest.iter, Option.bind_eq_some_iff] at ha
      obtain ⟨⟨a6, b6, x6, d6⟩, hs6, ha⟩ := ha
      have HS6 := Aside0.mk hs6
      have HA6 := Aside0.mk ha
      clear hs6 ha HA
      go_wp2_with (fail)
      refine (impl_stirrer_stir.calls w.heap.size _ _ _ _ _ 1 [165] a6 b6 x6 d6 w _ (HI.out.alloc _) (below_alloc HB.out _) (litRead wr 165 _) (by decide) (fun ad h hn => by cases h; have := IsS157.lt HI.out; show wr.heap.size ≠ w.heap.size; omega) HS6.out).mono ?_
      rintro e W7 ⟨rfl, hI7, hB7, _⟩
      have HI7 := Aside0.mk hI7
      have HB7 := Aside0.mk hB7
      clear hI7 hB7
      go_wp2
      go_roundg m
      case measure => omega
      case rel => exact ⟨x + 1, a6, b6, x6, d6, rfl, ⟨by have := Hk.out.2; omega⟩, HA6, HI7, HB7⟩
    · obtain rfl : gk = 0 := by have := Hk.out.2; omega
      have ha := HA.out
      simp only [impl_digest.iter, Option.some.injEq, Prod.mk.injEq] at ha
      obtain ⟨rfl, rfl, rfl, rfl⟩ := ha
      clear HA
      go_wp2_with (fail)
      obtain ⟨W8, hW8⟩ : ∃ W_ : World, W_ = wr.alloc (.cells #[] 5) := ⟨_, rfl⟩
      have HO8 : Aside0 (Kd.R (Kd.int .u8) 5 W8 w.heap.size (fun k => w.heap.size < k) (.slice (some ⟨wr.heap.size, 0, none⟩) 0 0) []) := ⟨by
        rw [hW8]
        have hlt := IsS157.lt HI.out
        exact ⟨fun k hk => by have := ownBlk hk; simp at this; omega, [], own_lit wr w.heap.size 5 .u8 [] (by omega) (by simp), Reps.none _ _⟩⟩
      have HI8 : Aside0 (IsS157 w W8 w.heap.size a b c d) := ⟨by rw [hW8]; exact HI.out.alloc _⟩
      have HB8 : Aside0 (Below w.heap.size w W8) := ⟨by rw [hW8]; exact below_alloc HB.out _⟩
      rw [← hW8]
      clear hW8
      obtain ⟨HG, hge⟩ := HI8.out
      have e0 := cellS157_0 HG
      have e1 := cellS157_1 HG
      have e2 := cellS157_2 HG
      have e3 := cellS157_3 HG
      clear HG
      go_quiet (fail)
      go_wp2_with (fail)
      go_loopg [51, 6] 4 (fun kq v51 v6 w' => ∃ (x : Int) (vo : Value) (o : List Int), v51 = .int .i64 x ∧ v6 = vo ∧ Aside0 (x = 0 ∧ o = [] ∨ x = 1 ∧ o = o1 ∨ x = 2 ∧ o = o2 ∨ x = 3 ∧ o = o3 ∨ x = 4 ∧ o = r) ∧ Aside0 (x + kq = 4) ∧ Aside0 (Kd.R (Kd.int .u8) 5 w' w.heap.size (fun k => w.heap.size < k) vo o) ∧ Aside0 (Below w.heap.size w w') ∧ Aside0 (w.heap.size < w'.heap.size))
      case atStart => exact ⟨0, _, [], rfl, rfl, ⟨.inl ⟨rfl, rfl⟩⟩, ⟨by omega⟩, HO8, ⟨pw_below_drewN HB8.out _⟩, ⟨IsS157.lt HI8.out⟩⟩
      case round =>
        clear e0 e1 e2 e3
        obtain ⟨x9, vo, o9, rfl, rfl, Ho, Hq, HR9, HB9, HL9⟩ := hrel
        rcases Ho.out with ⟨rfl, rfl⟩ | ⟨rfl, rfl⟩ | ⟨rfl, rfl⟩ | ⟨rfl, rfl⟩ | ⟨rfl, rfl⟩
        · have ix : ∀ w_ : World, (Instr.index 159 (.agg #[.int .u32 a, .int .u32 b, .int .u32 c, .int .u32 d]) (.int .i64 0)).run Try.prog w_ = .ok (.int .u32 a) w_ := fun _ => by kernel_rfl
          go_wp2_with (fail)
          refine (impl_fixed.calls k (fun k => w.heap.size < k) _ _ _ 4 _ w wr HB9.out HR9.out HO1.out).mono ?_
          rintro e w10 ⟨v10, rfl, hR10, hB10, hK10⟩
          have HR10 := Aside0.mk (Kd.R_mono hR10 (fun k hk => hk.elim (fun h => h) (fun h => Nat.lt_of_lt_of_le HL9.out h)))
          have HB10 := Aside0.mk hB10
          have HL10 := Aside0.mk (Nat.lt_of_lt_of_le HL9.out hK10.1)
          clear hR10 hB10 hK10
          go_wp2
          obtain ⟨m, rfl⟩ : ∃ m, gk = m + 1 := ⟨gk - 1, by have := Hq.out; omega⟩
          go_roundg m
          case measure => omega
          case rel => exact ⟨1, v10, o1, rfl, rfl, ⟨.inr (.inl ⟨rfl, rfl⟩)⟩, ⟨by have := Hq.out; omega⟩, HR10, HB10, HL10⟩
        · have ix : ∀ w_ : World, (Instr.index 159 (.agg #[.int .u32 a, .int .u32 b, .int .u32 c, .int .u32 d]) (.int .i64 1)).run Try.prog w_ = .ok (.int .u32 b) w_ := fun _ => by kernel_rfl
          go_wp2_with (fail)
          refine (impl_fixed.calls k (fun k => w.heap.size < k) _ _ _ 4 _ w wr HB9.out HR9.out HO2.out).mono ?_
          rintro e w10 ⟨v10, rfl, hR10, hB10, hK10⟩
          have HR10 := Aside0.mk (Kd.R_mono hR10 (fun k hk => hk.elim (fun h => h) (fun h => Nat.lt_of_lt_of_le HL9.out h)))
          have HB10 := Aside0.mk hB10
          have HL10 := Aside0.mk (Nat.lt_of_lt_of_le HL9.out hK10.1)
          clear hR10 hB10 hK10
          go_wp2
          obtain ⟨m, rfl⟩ : ∃ m, gk = m + 1 := ⟨gk - 1, by have := Hq.out; omega⟩
          go_roundg m
          case measure => omega
          case rel => exact ⟨2, v10, o2, rfl, rfl, ⟨.inr (.inr (.inl ⟨rfl, rfl⟩))⟩, ⟨by have := Hq.out; omega⟩, HR10, HB10, HL10⟩
        · have ix : ∀ w_ : World, (Instr.index 159 (.agg #[.int .u32 a, .int .u32 b, .int .u32 c, .int .u32 d]) (.int .i64 2)).run Try.prog w_ = .ok (.int .u32 c) w_ := fun _ => by kernel_rfl
          go_wp2_with (fail)
          refine (impl_fixed.calls k (fun k => w.heap.size < k) _ _ _ 4 _ w wr HB9.out HR9.out HO3.out).mono ?_
          rintro e w10 ⟨v10, rfl, hR10, hB10, hK10⟩
          have HR10 := Aside0.mk (Kd.R_mono hR10 (fun k hk => hk.elim (fun h => h) (fun h => Nat.lt_of_lt_of_le HL9.out h)))
          have HB10 := Aside0.mk hB10
          have HL10 := Aside0.mk (Nat.lt_of_lt_of_le HL9.out hK10.1)
          clear hR10 hB10 hK10
          go_wp2
          obtain ⟨m, rfl⟩ : ∃ m, gk = m + 1 := ⟨gk - 1, by have := Hq.out; omega⟩
          go_roundg m
          case measure => omega
          case rel => exact ⟨3, v10, o3, rfl, rfl, ⟨.inr (.inr (.inr (.inl ⟨rfl, rfl⟩)))⟩, ⟨by have := Hq.out; omega⟩, HR10, HB10, HL10⟩
        · have ix : ∀ w_ : World, (Instr.index 159 (.agg #[.int .u32 a, .int .u32 b, .int .u32 c, .int .u32 d]) (.int .i64 3)).run Try.prog w_ = .ok (.int .u32 d) w_ := fun _ => by kernel_rfl
          go_wp2_with (fail)
          refine (impl_fixed.calls k (fun k => w.heap.size < k) _ _ _ 4 _ w wr HB9.out HR9.out HO4.out).mono ?_
          rintro e w10 ⟨v10, rfl, hR10, hB10, hK10⟩
          have HR10 := Aside0.mk (Kd.R_mono hR10 (fun k hk => hk.elim (fun h => h) (fun h => Nat.lt_of_lt_of_le HL9.out h)))
          have HB10 := Aside0.mk hB10
          have HL10 := Aside0.mk (Nat.lt_of_lt_of_le HL9.out hK10.1)
          clear hR10 hB10 hK10
          go_wp2
          obtain ⟨m, rfl⟩ : ∃ m, gk = m + 1 := ⟨gk - 1, by have := Hq.out; omega⟩
          go_roundg m
          case measure => omega
          case rel => exact ⟨4, v10, r, rfl, rfl, ⟨.inr (.inr (.inr (.inr (⟨rfl, rfl⟩))))⟩, ⟨by have := Hq.out; omega⟩, HR10, HB10, HL10⟩
        · go_wp2
          go_ret
          exact ⟨_, rfl, Kd.R_mono HR9.out (fun _ _ => trivial), HB9.out⟩

end Go.Proofs.Ytolpikjbdfpdcaa.PFnExactTokenCheck
