-- Written by a program of this repo (xprint.py) out of the translation; Lean checks it. SHRUNK
import Derived.Test.YtjhcphcjpndciaaPFnExactTableAddx0
namespace Go.Proofs.Ytjhcphcjpndciaa.PFnExactTableAdd
open Go.RowKit Go.Proofs.YtjhcphcjpndciaaW.PrintWords Go.Proofs.YtjhcphcjpndciaaW.PrintLast Go.Proofs.YtjhcphcjpndciaaW.PrintMore
attribute [local go_sem] max2_int min2_int max_two min_two max_three min_three max_four min_four   -- for this text's walks alone
set_option linter.unusedVariables false
set_option linter.unusedSimpArgs false

/-! ### impl_costOf: function 103 -/
def impl_costOf.f (a0_0 : ByteArray) (a0_1 : ByteArray) : Option (Int) := some (wrap64 ((wrap64 (32 + (a0_0.size : Int))) + (a0_1.size : Int)))
set_option maxHeartbeats 8000000 in
set_option maxRecDepth 100000 in
theorem impl_costOf.calls (a0_0 : ByteArray) (a0_1 : ByteArray) (r : Int) (w : World) (h : impl_costOf.f a0_0 a0_1 = some r) :
    Calls Try.prog 103 #[.agg #[.string a0_0, .string a0_1]] w fun e w' => e = .returned (.int .i64 r) ∧ Below w.heap.size w w' := by
  have hu23 := Try.underlying23
  have HB := am (Below.refl w.heap.size w)
  have H : (some (wrap64 ((wrap64 (32 + (a0_0.size : Int))) + (a0_1.size : Int)))) = some r := h
  clear h
  obtain rfl := Option.some.inj H
  go_enter Try.func103, Try.ntmps103
  go_wp2_with (first | ((with_reducible refine gate_dst (N := 1) rfl ?_); refine box_event ?hg (N := 1) ?hd (cs := #[.string a0_0, .string a0_1]) (t := 23) ?hr ?_; (case hd => rfl); (case hg => rfl); (case hr => first | (go_simp; done) | (go_simp; rfl)); intro gb192 hg w2 hbox hb; have BK192 := am (hbox); have GW192 := am ((by rw [hg]; exact (below_size (hq HB.out)) : w.heap.size ≤ gb192)); have GE192 := GW192; replace HB := am (below_step (hq HB.out) hb); clear hb hbox hg; have hcz3_0 : w2.cell? ⟨gb192, 0, none⟩ = some (.string a0_0) := bc BK192 0; have hcz3_1 : w2.cell? ⟨gb192, 1, none⟩ = some (.string a0_1) := bc BK192 1; have hfz3_0 := blk_frozen BK192.out 0; have hfz3_1 := blk_frozen BK192.out 1))
  go_ret
  exact ⟨by first | rfl | (simp [errW_none, errW_some] <;> rfl) | (simp [*, errW_none, errW_some] <;> rfl), by repeat (with_reducible first | exact hq HB.out | refine bs ?_ GE192.out | refine us ?_)⟩

-- NOT PRINTED: function 204 (bytealg_IndexByteString)

-- NOT PRINTED: function 203 (stringslite_IndexByte)

-- NOT PRINTED: function 199 (strings_IndexByte)

/-! ### utf8_ValidRune: function 200 -/
def utf8_ValidRune.j0 : Nat → Int → Bool → Option (Bool)
  | 0, _, _ => none
  | k + 1, x0, x3 => if x3 = true then (some true) else (if 57343 < x0 then (if x0 ≤ 1114111 then (some true) else (some false)) else (some false))
def utf8_ValidRune.f (k : Nat) (a0 : Int) : Option (Bool) := if 0 ≤ a0 then (utf8_ValidRune.j0 k a0 (decide (a0 < 55296))) else (utf8_ValidRune.j0 k a0 false)
theorem utf8_ValidRune.mono_l : ∀ k, (∀ y0 y1, LeO (utf8_ValidRune.j0 k y0 y1) (utf8_ValidRune.j0 (k + 1) y0 y1))
  | 0 => fun _ _ r h => by simp [utf8_ValidRune.j0] at h
  | k + 1 => by
    have ih0 := utf8_ValidRune.mono_l k
    · intro y0 y1
      unfold utf8_ValidRune.j0
      repeat' first
      | (with_reducible exact ih0 _ _)
      | (with_reducible exact LeO.refl _)
      | (with_reducible exact LeO.none _)
      | (with_reducible refine LeO.ite ?_ ?_)
      | (with_reducible refine LeO.bind ?_ (fun _ => ?_))
      | exact ih0 _ _
      | exact LeO.none _
      | refine LeO.ite ?_ ?_
      | refine LeO.bind ?_ (fun _ => ?_)
theorem utf8_ValidRune.mono : ∀ a0 k, LeO (utf8_ValidRune.f k a0) (utf8_ValidRune.f (k + 1) a0) := by
  intro a0 k
  have ih0 := utf8_ValidRune.mono_l k
  unfold utf8_ValidRune.f
  repeat' first
      | (with_reducible exact ih0 _ _)
      | (with_reducible exact LeO.refl _)
      | (with_reducible exact LeO.none _)
      | (with_reducible refine LeO.ite ?_ ?_)
      | (with_reducible refine LeO.bind ?_ (fun _ => ?_))
      | exact ih0 _ _
      | exact LeO.none _
      | refine LeO.ite ?_ ?_
      | refine LeO.bind ?_ (fun _ => ?_)
set_option maxHeartbeats 8000000 in
set_option maxRecDepth 100000 in
theorem utf8_ValidRune.calls (k : Nat) (a0 : Int) (r : Bool) (w : World) (h : utf8_ValidRune.f k a0 = some r) :
    Calls Try.prog 200 #[.int .i32 a0] w fun e w' => e = .returned (.bool r) ∧ Drawn0 w w' := by
  have H : (if 0 ≤ a0 then (utf8_ValidRune.j0 k a0 (decide (a0 < 55296))) else (utf8_ValidRune.j0 k a0 false)) = some r := h
  clear h
  have HC2 := Aside0.mk H
  clear H
  go_enter Try.func200, Try.ntmps200
  go_upto_region 1 with (fail)
  go_cut [3] (fun v3 wc => ∃ (kq : Nat) (x3_1 : Bool), v3 = .bool x3_1 ∧ Aside0 (utf8_ValidRune.j0 kq a0 x3_1 = some r) ∧ Aside0 (kq ≤ k) ∧ Drawn0 w wc)
  case first =>
    have H := HC2.out
    clear HC2
    by_cases c3 : 0 ≤ a0
    · rw [if_pos c3] at H
      have c3b0 : decide (0 ≤ a0) = true := decide_eq_true c3
      clear c3
      (first | rw [c3b0] | (simp only [i64_w, i32_w]; rw [c3b0]) | skip)
      have H' := Aside0.mk H
      clear H
      go_wp2
      go_meet
      case rel => exact ⟨_, (decide (a0 < 55296)), (by first | rfl | (simp; done) | (simp [*]; done)), H', ⟨by first | omega | exact Nat.le_refl _⟩, by repeat (first | exact Drawn0.refl _ | apply Drawn0.step)⟩
    · rw [if_neg c3] at H
      have c3b0 : decide (0 ≤ a0) = false := decide_eq_false c3
      clear c3
      (first | rw [c3b0] | (simp only [i64_w, i32_w]; rw [c3b0]) | skip)
      have H' := Aside0.mk H
      clear H
      go_wp2
      go_meet
      case rel => exact ⟨_, (false), (by first | rfl | (simp; done) | (simp [*]; done)), H', ⟨by first | omega | exact Nat.le_refl _⟩, by repeat (first | exact Drawn0.refl _ | apply Drawn0.step)⟩
  case rest =>
    clear HC2
    try clear c2
    try clear p2
    try clear c3
    try clear c3b0
    obtain ⟨kq, x3_1, rfl, HA, HJ1, ⟨mc1, rfl⟩⟩ := hcut
    cases kq with
    | zero => exact absurd HA.out (by simp [utf8_ValidRune.j0])
    | succ kj1 =>
      have H := HA.out
      clear HA
      simp only [utf8_ValidRune.j0] at H
      by_cases c4 : x3_1 = true
      · subst c4
        have H1 : (some true) = some r := by rw [if_pos rfl] at H; exact H
        clear H
        have H := H1
        clear H1
        obtain rfl := Option.some.inj H
        go_wp2
        go_ret
        exact ⟨by first | rfl | (simp; done) | (simp [*]; done), by repeat (first | exact Drawn0.refl _ | apply Drawn0.step)⟩
      · replace c4 := Bool.eq_false_iff.mpr c4
        subst c4
        have H1 : (if 57343 < a0 then (if a0 ≤ 1114111 then (some true) else (some false)) else (some false)) = some r := by rw [if_neg (show ¬ (false = true) by decide)] at H; exact H
        clear H
        have H := H1
        clear H1
        by_cases c5 : 57343 < a0
        · rw [if_pos c5] at H
          have c5b0 : decide (57343 < a0) = true := decide_eq_true c5
          clear c5
          by_cases c6 : a0 ≤ 1114111
          · rw [if_pos c6] at H
            have c6b0 : decide (a0 ≤ 1114111) = true := decide_eq_true c6
            clear c6
            obtain rfl := Option.some.inj H
            go_wp2
            go_ret
            exact ⟨by first | rfl | (simp; done) | (simp [*]; done), by repeat (first | exact Drawn0.refl _ | apply Drawn0.step)⟩
          · rw [if_neg c6] at H
            have c6b0 : decide (a0 ≤ 1114111) = false := decide_eq_false c6
            clear c6
            obtain rfl := Option.some.inj H
            go_wp2
            go_ret
            exact ⟨by first | rfl | (simp; done) | (simp [*]; done), by repeat (first | exact Drawn0.refl _ | apply Drawn0.step)⟩
        · rw [if_neg c5] at H
          have c5b0 : decide (57343 < a0) = false := decide_eq_false c5
          clear c5
          obtain rfl := Option.some.inj H
          go_wp2
          go_ret
          exact ⟨by first | rfl | (simp; done) | (simp [*]; done), by repeat (first | exact Drawn0.refl _ | apply Drawn0.step)⟩

/-! ### bytealg_Cutover: function 201 -/
def bytealg_Cutover.f (a0 : Int) : Option (Int) := some (wrap64 (Int.tdiv (wrap64 (a0 + 16)) 8))
set_option maxHeartbeats 8000000 in
set_option maxRecDepth 100000 in
theorem bytealg_Cutover.calls (a0 : Int) (r : Int) (w : World) (h : bytealg_Cutover.f a0 = some r) :
    Calls Try.prog 201 #[.int .i64 a0] w fun e w' => e = .returned (.int .i64 r) ∧ Drawn0 w w' := by
  have H : (some (wrap64 (Int.tdiv (wrap64 (a0 + 16)) 8))) = some r := h
  clear h
  obtain rfl := Option.some.inj H
  go_enter Try.func201, Try.ntmps201
  go_wp2
  go_ret
  exact ⟨by first | rfl | (simp; done) | (simp [*]; done), by repeat (first | exact Drawn0.refl _ | apply Drawn0.step)⟩

-- NOT PRINTED: function 202 (bytealg_IndexString)

-- NOT PRINTED: function 194 (strings_IndexRune)

/-! ### strings_shouldUseASCIISet: function 195 -/
def strings_shouldUseASCIISet.f (a0 : Int) : Option (Bool) := some (decide (a0 > 8))
set_option maxHeartbeats 8000000 in
set_option maxRecDepth 100000 in
theorem strings_shouldUseASCIISet.calls (a0 : Int) (r : Bool) (w : World) (h : strings_shouldUseASCIISet.f a0 = some r) :
    Calls Try.prog 195 #[.int .i64 a0] w fun e w' => e = .returned (.bool r) ∧ Drawn0 w w' := by
  have H : (some (decide (a0 > 8))) = some r := h
  clear h
  obtain rfl := Option.some.inj H
  go_enter Try.func195, Try.ntmps195
  go_wp2
  go_ret
  exact ⟨by first | rfl | (simp; done) | (simp [*]; done), by repeat (first | exact Drawn0.refl _ | apply Drawn0.step)⟩

-- NOT PRINTED: function 196 (strings_makeASCIISet)

-- NOT PRINTED: function 197 (strings_asciiSet_contains)

-- NOT PRINTED: function 187 (strings_IndexAny)

/-! ### strings_ContainsAny: function 175 -/
def strings_ContainsAny.f (a0 : ByteArray) (a1 : ByteArray) : Option (Bool) :=
  if 2 ≤ a1.size ∧ a1.size < 4294967281 ∧ a0.size < 4294967281 ∧ (a1.data.toList.all fun b => decide (b.toNat < 128)) = true then some (Go.Lib.containsAny a0.data.toList a1.data.toList) else none
theorem strings_ContainsAny.calls (a0 : ByteArray) (a1 : ByteArray) (r : Bool) (w : World) (h : strings_ContainsAny.f a0 a1 = some r) :
    Calls Try.prog 175 #[.string a0, .string a1] w fun e w' => e = .returned (.bool r) ∧ Below w.heap.size w w' := by
  unfold strings_ContainsAny.f at h
  by_cases hc : 2 ≤ a1.size ∧ a1.size < 4294967281 ∧ a0.size < 4294967281 ∧ (a1.data.toList.all fun b => decide (b.toNat < 128)) = true
  · rw [if_pos hc] at h
    obtain rfl := Option.some.inj h
    refine Go.Proofs.Ytjhcphcjpndciaa.AnyRunes.containsAny_any Try.lays150 (by kernel_rfl) a0 a1 w hc.1 hc.2.2.1 hc.2.1 ?_
    intro j b hb
    have := List.all_eq_true.1 hc.2.2.2 b (List.mem_of_getElem? hb)
    exact of_decide_eq_true this
  · rw [if_neg hc] at h
    exact absurd h (by simp)

/-! ### impl_valueOK: function 160 -/
def impl_valueOK.f (a0 : ByteArray) : Option (Bool) := if (a0.size : Int) ≤ 1024 then ((strings_ContainsAny.f a0 (⟨#[0, 10, 13]⟩ : ByteArray)).bind fun t193 => (some (!t193))) else (some false)
set_option maxHeartbeats 8000000 in
set_option maxRecDepth 100000 in
theorem impl_valueOK.calls (a0 : ByteArray) (r : Bool) (w : World) (h : impl_valueOK.f a0 = some r) :
    Calls Try.prog 160 #[.string a0] w fun e w' => e = .returned (.bool r) ∧ Below w.heap.size w w' := by
  have HB := am (Below.refl w.heap.size w)
  have H : (if (a0.size : Int) ≤ 1024 then ((strings_ContainsAny.f a0 (⟨#[0, 10, 13]⟩ : ByteArray)).bind fun t193 => (some (!t193))) else (some false)) = some r := h
  clear h
  by_cases c2 : (a0.size : Int) ≤ 1024
  · rw [if_pos c2] at H
    have c2b0 : decide ((a0.size : Int) ≤ 1024) = true := decide_eq_true c2
    have c2b1 : decide (a0.size ≤ 1024) = true := decide_eq_true (by omega)
    clear c2
    replace H := Option.bind_eq_some_iff.mp H
    obtain ⟨t193, A30, H⟩ := H
    replace H : (some (!t193)) = some r := H
    have A3 := Aside0.mk A30
    clear A30
    obtain rfl := Option.some.inj H
    go_enter Try.func160, Try.ntmps160
    go_wp2_with (first | (go_at_call 175; (with_reducible refine (strings_ContainsAny.calls a0 (⟨#[0, 10, 13]⟩ : ByteArray) t193 _ A3.out).mono ?_); rintro e w4 ⟨rfl, hb⟩; replace HB := am (below_step (hq HB.out) hb); (try clear hb); (try clear hb2); (try clear hk); (try clear hi)))
    go_ret
    exact ⟨by first | rfl | (simp [errW_none, errW_some] <;> rfl) | (simp [*, errW_none, errW_some] <;> rfl), by repeat (first | (with_reducible first | exact HB.out | apply below_alloc | apply pw_below_drewN | apply below_drew1) | exact HB.out)⟩
  · rw [if_neg c2] at H
    have c2b0 : decide ((a0.size : Int) ≤ 1024) = false := decide_eq_false c2
    have c2b1 : decide (a0.size ≤ 1024) = false := decide_eq_false (by omega)
    clear c2
    obtain rfl := Option.some.inj H
    go_enter Try.func160, Try.ntmps160
    go_wp2
    go_ret
    exact ⟨by first | rfl | (simp [errW_none, errW_some] <;> rfl) | (simp [*, errW_none, errW_some] <;> rfl), by repeat (first | (with_reducible first | exact HB.out | apply below_alloc | apply pw_below_drewN | apply below_drew1) | exact HB.out)⟩

/-! ### impl_fieldOK: function 104 -/
mutual
def impl_fieldOK.j0 : Nat → Bool → ByteArray → ByteArray → Option (Bool)
  | 0, _, _, _ => none
  | k + 1, x14, x195000, x195001 => if x14 = true then (some false) else (impl_fieldOK.l0 k (x195000.size : Int) 0 x195000 x195001)
def impl_fieldOK.l0 : Nat → Int → Int → ByteArray → ByteArray → Option (Bool)
  | 0, _, _, _, _ => none
  | k + 1, x17, x18, x195000, x195001 => if x18 < x17 then (if 0 ≤ x18 then (if x18 < (x195000.size : Int) then (if (bt x195000 x18) < 33 then (some false) else (if (bt x195000 x18) > 126 then (some false) else (if (bt x195000 x18) ≥ 65 then (if (bt x195000 x18) ≤ 90 then (some false) else (impl_fieldOK.l0 k x17 (wrap64 (x18 + 1)) x195000 x195001)) else (impl_fieldOK.l0 k x17 (wrap64 (x18 + 1)) x195000 x195001)))) else (none)) else (none)) else ((impl_valueOK.f x195001).bind fun t195 => (some t195))
end
def impl_fieldOK.f (k : Nat) (a0_0 : ByteArray) (a0_1 : ByteArray) : Option (Bool) := if (a0_0.size : Int) < 1 then (impl_fieldOK.j0 k true a0_0 a0_1) else (impl_fieldOK.j0 k (decide ((a0_0.size : Int) > 64)) a0_0 a0_1)
theorem impl_fieldOK.mono_l : ∀ k, (∀ y0 y1 y2, LeO (impl_fieldOK.j0 k y0 y1 y2) (impl_fieldOK.j0 (k + 1) y0 y1 y2)) ∧ (∀ y0 y1 y2 y3, LeO (impl_fieldOK.l0 k y0 y1 y2 y3) (impl_fieldOK.l0 (k + 1) y0 y1 y2 y3))
  | 0 => ⟨fun _ _ _ r h => by simp [impl_fieldOK.j0] at h, fun _ _ _ _ r h => by simp [impl_fieldOK.l0] at h⟩
  | k + 1 => by
    obtain ⟨ih0, ih1⟩ := impl_fieldOK.mono_l k
    refine ⟨?_, ?_⟩
    · intro y0 y1 y2
      unfold impl_fieldOK.j0
      repeat' first
      | (with_reducible exact ih0 _ _ _)
      | (with_reducible exact ih1 _ _ _ _)
      | (with_reducible exact LeO.refl _)
      | (with_reducible exact LeO.none _)
      | (with_reducible refine LeO.ite ?_ ?_)
      | (with_reducible refine LeO.bind ?_ (fun _ => ?_))
      | exact ih0 _ _ _
      | exact ih1 _ _ _ _
      | exact LeO.none _
      | refine LeO.ite ?_ ?_
      | refine LeO.bind ?_ (fun _ => ?_)
    · intro y0 y1 y2 y3
      unfold impl_fieldOK.l0
      repeat' first
      | (with_reducible exact ih0 _ _ _)
      | (with_reducible exact ih1 _ _ _ _)
      | (with_reducible exact LeO.refl _)
      | (with_reducible exact LeO.none _)
      | (with_reducible refine LeO.ite ?_ ?_)
      | (with_reducible refine LeO.bind ?_ (fun _ => ?_))
      | exact ih0 _ _ _
      | exact ih1 _ _ _ _
      | exact LeO.none _
      | refine LeO.ite ?_ ?_
      | refine LeO.bind ?_ (fun _ => ?_)
theorem impl_fieldOK.mono : ∀ a0 a1 k, LeO (impl_fieldOK.f k a0 a1) (impl_fieldOK.f (k + 1) a0 a1) := by
  intro a0 a1 k
  obtain ⟨ih0, ih1⟩ := impl_fieldOK.mono_l k
  unfold impl_fieldOK.f
  repeat' first
      | (with_reducible exact ih0 _ _ _)
      | (with_reducible exact ih1 _ _ _ _)
      | (with_reducible exact LeO.refl _)
      | (with_reducible exact LeO.none _)
      | (with_reducible refine LeO.ite ?_ ?_)
      | (with_reducible refine LeO.bind ?_ (fun _ => ?_))
      | exact ih0 _ _ _
      | exact ih1 _ _ _ _
      | exact LeO.none _
      | refine LeO.ite ?_ ?_
      | refine LeO.bind ?_ (fun _ => ?_)
set_option maxHeartbeats 8000000 in
set_option maxRecDepth 100000 in
theorem impl_fieldOK.calls (k : Nat) (a0_0 : ByteArray) (a0_1 : ByteArray) (r : Bool) (w : World) (h : impl_fieldOK.f k a0_0 a0_1 = some r) :
    Calls Try.prog 104 #[.agg #[.string a0_0, .string a0_1]] w fun e w' => e = .returned (.bool r) ∧ Below w.heap.size w w' := by
  have hu23 := Try.underlying23
  have HB := am (Below.refl w.heap.size w)
  have H : (if (a0_0.size : Int) < 1 then (impl_fieldOK.j0 k true a0_0 a0_1) else (impl_fieldOK.j0 k (decide ((a0_0.size : Int) > 64)) a0_0 a0_1)) = some r := h
  clear h
  have HC2 := Aside0.mk H
  clear H
  go_enter Try.func104, Try.ntmps104
  go_upto_region 1 with (first | ((with_reducible refine gate_dst (N := 1) rfl ?_); (try (refine gate_guard (by rfl) ?_; dsimp only)); refine box_event ?hg (N := 1) ?hd (cs := #[.string a0_0, .string a0_1]) (t := 23) ?hr ?_; (case hd => rfl); (case hg => rfl); (case hr => first | (go_simp; done) | (go_simp; rfl)); intro gb194 hg w3 hbox hb; have BK194 := am (hbox); have GW194 := am ((by rw [hg]; exact (below_size (hq HB.out)) : w.heap.size ≤ gb194)); have GE194 := GW194; replace HB := am (below_step (hq HB.out) hb); clear hb hbox hg))
  (try simp only [Act.put, sA, sB, sC])
  go_cut [14] (fun v14 wc => ∃ (kq : Nat) (x14_1 : Bool), v14 = .bool x14_1 ∧ Aside0 (impl_fieldOK.j0 kq x14_1 a0_0 a0_1 = some r) ∧ Aside0 (kq ≤ k) ∧ Aside0 (wc.heap[gb194]? = some (.cells #[.string a0_0, .string a0_1] 23 (0, 0))) ∧ Aside0 (Below w.heap.size w wc))
  case first =>
    have H := HC2.out
    clear HC2
    by_cases c4 : (a0_0.size : Int) < 1
    · rw [if_pos c4] at H
      have c4b0 : decide ((a0_0.size : Int) < 1) = true := decide_eq_true c4
      have c4b1 : decide (a0_0.size < 1) = true := decide_eq_true (by omega)
      clear c4
      (first | rw [c4b0] | (simp only [i64_w, i32_w]; rw [c4b0]) | skip)
      have H' := Aside0.mk H
      clear H
      have hcz5_0 : w3.cell? ⟨gb194, 0, none⟩ = some (.string a0_0) := bc BK194 0
      have hcz5_1 : w3.cell? ⟨gb194, 1, none⟩ = some (.string a0_1) := bc BK194 1
      have hfz5_0 := blk_frozen BK194.out 0
      have hfz5_1 := blk_frozen BK194.out 1
      go_wp2
      go_meet
      case rel => exact ⟨_, (true), (by first | rfl | (simp; done) | (simp [*]; done)), H', ⟨by first | omega | exact Nat.le_refl _⟩, ⟨by (with_reducible repeat (first | refine blk_drewN ?_ _ | refine blk_drew ?_ | refine blk_alloc ?_ _)); exact BK194.out⟩, ⟨by repeat (with_reducible first | exact hq HB.out | refine bs ?_ GE194.out | refine us ?_)⟩⟩
    · rw [if_neg c4] at H
      have c4b0 : decide ((a0_0.size : Int) < 1) = false := decide_eq_false c4
      have c4b1 : decide (a0_0.size < 1) = false := decide_eq_false (by omega)
      clear c4
      (first | rw [c4b0] | (simp only [i64_w, i32_w]; rw [c4b0]) | skip)
      have H' := Aside0.mk H
      clear H
      have hcz6_0 : w3.cell? ⟨gb194, 0, none⟩ = some (.string a0_0) := bc BK194 0
      have hcz6_1 : w3.cell? ⟨gb194, 1, none⟩ = some (.string a0_1) := bc BK194 1
      have hfz6_0 := blk_frozen BK194.out 0
      have hfz6_1 := blk_frozen BK194.out 1
      go_wp2
      go_meet
      case rel => exact ⟨_, (decide ((a0_0.size : Int) > 64)), (by first | rfl | (simp; done) | (simp [*]; done)), H', ⟨by first | omega | exact Nat.le_refl _⟩, ⟨by (with_reducible repeat (first | refine blk_drewN ?_ _ | refine blk_drew ?_ | refine blk_alloc ?_ _)); exact BK194.out⟩, ⟨by repeat (with_reducible first | exact hq HB.out | refine bs ?_ GE194.out | refine us ?_)⟩⟩
  case rest =>
    clear HC2
    try clear c1
    try clear p2
    try clear c4
    try clear c4b0
    try clear c4b1
    try clear hcz5_0
    try clear hcz5_1
    try clear hcz6_0
    try clear hcz6_1
    try clear hfz5_0
    try clear hfz5_1
    try clear hfz6_0
    try clear hfz6_1
    obtain ⟨kq, x14_1, rfl, HA, HJ1, BK194, HB⟩ := hcut
    cases kq with
    | zero => exact absurd HA.out (by simp [impl_fieldOK.j0])
    | succ kj1 =>
      have H := HA.out
      clear HA
      simp only [impl_fieldOK.j0] at H
      by_cases c7 : x14_1 = true
      · subst c7
        have H1 : (some false) = some r := by rw [if_pos rfl] at H; exact H
        clear H
        have H := H1
        clear H1
        obtain rfl := Option.some.inj H
        go_wp2
        go_ret
        exact ⟨by first | rfl | (simp [errW_none, errW_some] <;> rfl) | (simp [*, errW_none, errW_some] <;> rfl), by repeat (with_reducible first | exact hq HB.out | refine bs ?_ GE194.out | refine us ?_)⟩
      · replace c7 := Bool.eq_false_iff.mpr c7
        subst c7
        have H1 : (impl_fieldOK.l0 kj1 (a0_0.size : Int) 0 a0_0 a0_1) = some r := by rw [if_neg (show ¬ (false = true) by decide)] at H; exact H
        clear H
        have H := H1
        clear H1
        have H' := Aside0.mk H
        clear H
        have hcz8_0 : wc.cell? ⟨gb194, 0, none⟩ = some (.string a0_0) := bc BK194 0
        have hcz8_1 : wc.cell? ⟨gb194, 1, none⟩ = some (.string a0_1) := bc BK194 1
        have hfz8_0 := blk_frozen BK194.out 0
        have hfz8_1 := blk_frozen BK194.out 1
        go_wp2
        go_loopg [18] kj1 (fun kq v18 w' => ∃ (x18_2 : Int), v18 = .int .i64 x18_2 ∧ Aside0 (impl_fieldOK.l0 kq (a0_0.size : Int) x18_2 a0_0 a0_1 = some r) ∧ Aside0 (kq ≤ kj1) ∧ Aside0 (w'.heap[gb194]? = some (.cells #[.string a0_0, .string a0_1] 23 (0, 0))) ∧ Aside0 (Below w.heap.size w w'))
        case atStart => exact ⟨(0), (by first | rfl | (simp; done) | (simp [*]; done)), H', ⟨Nat.le_refl _⟩, ⟨by (with_reducible repeat (first | refine blk_drewN ?_ _ | refine blk_drew ?_ | refine blk_alloc ?_ _)); exact BK194.out⟩, ⟨by repeat (with_reducible first | exact hq HB.out | refine bs ?_ GE194.out | refine us ?_)⟩⟩
        case round =>
          clear H'
          try clear c1
          try clear p2
          try clear c4
          try clear c4b0
          try clear c4b1
          try clear c7
          try clear hcz5_0
          try clear hcz5_1
          try clear hcz6_0
          try clear hcz6_1
          try clear hcz8_0
          try clear hcz8_1
          try clear hfz5_0
          try clear hfz5_1
          try clear hfz6_0
          try clear hfz6_1
          try clear hfz8_0
          try clear hfz8_1
          try clear p2
          obtain ⟨x18_2, rfl, HA, HK2, BK194, HB⟩ := hrel
          cases gk with
          | zero => exact absurd HA.out (by simp [impl_fieldOK.l0])
          | succ k2 =>
            have H := HA.out
            clear HA
            simp only [impl_fieldOK.l0] at H
            by_cases c9 : x18_2 < (a0_0.size : Int)
            · rw [if_pos c9] at H
              have c9b0 : decide (x18_2 < (a0_0.size : Int)) = true := decide_eq_true c9
              clear c9
              by_cases c10 : 0 ≤ x18_2
              · rw [if_pos c10] at H
                have c10b0 : decide (0 ≤ x18_2) = true := decide_eq_true c10
                clear c10
                by_cases c11 : x18_2 < (a0_0.size : Int)
                · rw [if_pos c11] at H
                  have c11b0 : decide (x18_2 < (a0_0.size : Int)) = true := decide_eq_true c11
                  clear c11
                  by_cases c13 : (bt a0_0 x18_2) < 33
                  · rw [if_pos c13] at H
                    have c13b0 : decide ((bt a0_0 x18_2) < 33) = true := decide_eq_true c13
                    clear c13
                    obtain rfl := Option.some.inj H
                    have hcz14_0 : wr.cell? ⟨gb194, 0, none⟩ = some (.string a0_0) := bc BK194 0
                    have hcz14_1 : wr.cell? ⟨gb194, 1, none⟩ = some (.string a0_1) := bc BK194 1
                    have hfz14_0 := blk_frozen BK194.out 0
                    have hfz14_1 := blk_frozen BK194.out 1
                    have p12 : 0 ≤ (x18_2 : Int) := of_decide_eq_true (by first | (with_reducible assumption) | assumption)
                    have q12 : x18_2 < (a0_0.size : Int) := of_decide_eq_true (by first | (with_reducible assumption) | assumption)
                    have hx12 := bt_at a0_0 x18_2
                    replace p12 := eq_true p12
                    replace q12 := eq_true q12
                    go_wp2
                    go_ret
                    exact ⟨by first | rfl | (simp [errW_none, errW_some] <;> rfl) | (simp [*, errW_none, errW_some] <;> rfl), by repeat (with_reducible first | exact hq HB.out | refine bs ?_ GE194.out | refine us ?_)⟩
                  · rw [if_neg c13] at H
                    have c13b0 : decide ((bt a0_0 x18_2) < 33) = false := decide_eq_false c13
                    clear c13
                    by_cases c15 : (bt a0_0 x18_2) > 126
                    · rw [if_pos c15] at H
                      have c15b0 : decide (126 < (bt a0_0 x18_2)) = true := decide_eq_true c15
                      clear c15
                      obtain rfl := Option.some.inj H
                      have hcz16_0 : wr.cell? ⟨gb194, 0, none⟩ = some (.string a0_0) := bc BK194 0
                      have hcz16_1 : wr.cell? ⟨gb194, 1, none⟩ = some (.string a0_1) := bc BK194 1
                      have hfz16_0 := blk_frozen BK194.out 0
                      have hfz16_1 := blk_frozen BK194.out 1
                      have p12 : 0 ≤ (x18_2 : Int) := of_decide_eq_true (by first | (with_reducible assumption) | assumption)
                      have q12 : x18_2 < (a0_0.size : Int) := of_decide_eq_true (by first | (with_reducible assumption) | assumption)
                      have hx12 := bt_at a0_0 x18_2
                      replace p12 := eq_true p12
                      replace q12 := eq_true q12
                      go_wp2
                      go_ret
                      exact ⟨by first | rfl | (simp [errW_none, errW_some] <;> rfl) | (simp [*, errW_none, errW_some] <;> rfl), by repeat (with_reducible first | exact hq HB.out | refine bs ?_ GE194.out | refine us ?_)⟩
                    · rw [if_neg c15] at H
                      have c15b0 : decide (126 < (bt a0_0 x18_2)) = false := decide_eq_false c15
                      clear c15
                      by_cases c17 : (bt a0_0 x18_2) ≥ 65
                      · rw [if_pos c17] at H
                        have c17b0 : decide (65 ≤ (bt a0_0 x18_2)) = true := decide_eq_true c17
                        clear c17
                        by_cases c18 : (bt a0_0 x18_2) ≤ 90
                        · rw [if_pos c18] at H
                          have c18b0 : decide ((bt a0_0 x18_2) ≤ 90) = true := decide_eq_true c18
                          clear c18
                          obtain rfl := Option.some.inj H
                          have hcz19_0 : wr.cell? ⟨gb194, 0, none⟩ = some (.string a0_0) := bc BK194 0
                          have hcz19_1 : wr.cell? ⟨gb194, 1, none⟩ = some (.string a0_1) := bc BK194 1
                          have hfz19_0 := blk_frozen BK194.out 0
                          have hfz19_1 := blk_frozen BK194.out 1
                          have p12 : 0 ≤ (x18_2 : Int) := of_decide_eq_true (by first | (with_reducible assumption) | assumption)
                          have q12 : x18_2 < (a0_0.size : Int) := of_decide_eq_true (by first | (with_reducible assumption) | assumption)
                          have hx12 := bt_at a0_0 x18_2
                          replace p12 := eq_true p12
                          replace q12 := eq_true q12
                          go_wp2
                          go_ret
                          exact ⟨by first | rfl | (simp [errW_none, errW_some] <;> rfl) | (simp [*, errW_none, errW_some] <;> rfl), by repeat (with_reducible first | exact hq HB.out | refine bs ?_ GE194.out | refine us ?_)⟩
                        · rw [if_neg c18] at H
                          have c18b0 : decide ((bt a0_0 x18_2) ≤ 90) = false := decide_eq_false c18
                          clear c18
                          have H' := Aside0.mk H
                          clear H
                          have hcz20_0 : wr.cell? ⟨gb194, 0, none⟩ = some (.string a0_0) := bc BK194 0
                          have hcz20_1 : wr.cell? ⟨gb194, 1, none⟩ = some (.string a0_1) := bc BK194 1
                          have hfz20_0 := blk_frozen BK194.out 0
                          have hfz20_1 := blk_frozen BK194.out 1
                          have p12 : 0 ≤ (x18_2 : Int) := of_decide_eq_true (by first | (with_reducible assumption) | assumption)
                          have q12 : x18_2 < (a0_0.size : Int) := of_decide_eq_true (by first | (with_reducible assumption) | assumption)
                          have hx12 := bt_at a0_0 x18_2
                          replace p12 := eq_true p12
                          replace q12 := eq_true q12
                          go_wp2
                          go_roundg k2
                          case measure => have := HJ1.out; have := HK2.out; omega
                          case rel => exact ⟨(wrap64 (x18_2 + 1)), (by first | rfl | (simp; done) | (simp [*]; done)), H', ⟨by have := HJ1.out; have := HK2.out; omega⟩, ⟨by (with_reducible repeat (first | refine blk_drewN ?_ _ | refine blk_drew ?_ | refine blk_alloc ?_ _)); exact BK194.out⟩, ⟨by repeat (with_reducible first | exact hq HB.out | refine bs ?_ GE194.out | refine us ?_)⟩⟩
                      · rw [if_neg c17] at H
                        have c17b0 : decide (65 ≤ (bt a0_0 x18_2)) = false := decide_eq_false c17
                        clear c17
                        have H' := Aside0.mk H
                        clear H
                        have hcz21_0 : wr.cell? ⟨gb194, 0, none⟩ = some (.string a0_0) := bc BK194 0
                        have hcz21_1 : wr.cell? ⟨gb194, 1, none⟩ = some (.string a0_1) := bc BK194 1
                        have hfz21_0 := blk_frozen BK194.out 0
                        have hfz21_1 := blk_frozen BK194.out 1
                        have p12 : 0 ≤ (x18_2 : Int) := of_decide_eq_true (by first | (with_reducible assumption) | assumption)
                        have q12 : x18_2 < (a0_0.size : Int) := of_decide_eq_true (by first | (with_reducible assumption) | assumption)
                        have hx12 := bt_at a0_0 x18_2
                        replace p12 := eq_true p12
                        replace q12 := eq_true q12
                        go_wp2
                        go_roundg k2
                        case measure => have := HJ1.out; have := HK2.out; omega
                        case rel => exact ⟨(wrap64 (x18_2 + 1)), (by first | rfl | (simp; done) | (simp [*]; done)), H', ⟨by have := HJ1.out; have := HK2.out; omega⟩, ⟨by (with_reducible repeat (first | refine blk_drewN ?_ _ | refine blk_drew ?_ | refine blk_alloc ?_ _)); exact BK194.out⟩, ⟨by repeat (with_reducible first | exact hq HB.out | refine bs ?_ GE194.out | refine us ?_)⟩⟩
                · rw [if_neg c11] at H
                  exact absurd H (by simp)
              · rw [if_neg c10] at H
                exact absurd H (by simp)
            · rw [if_neg c9] at H
              have c9b0 : decide (x18_2 < (a0_0.size : Int)) = false := decide_eq_false c9
              clear c9
              replace H := Option.bind_eq_some_iff.mp H
              obtain ⟨t195, A220, H⟩ := H
              replace H : (some t195) = some r := H
              have A22 := Aside0.mk A220
              clear A220
              obtain rfl := Option.some.inj H
              have hcz23_0 : wr.cell? ⟨gb194, 0, none⟩ = some (.string a0_0) := bc BK194 0
              have hcz23_1 : wr.cell? ⟨gb194, 1, none⟩ = some (.string a0_1) := bc BK194 1
              have hfz23_0 := blk_frozen BK194.out 0
              have hfz23_1 := blk_frozen BK194.out 1
              go_wp2_with (first | ((with_reducible refine gate_callee (f := 160) rfl ?_); refine goesL_ (some 42) rfl rfl Try.func160 (by kernel_rfl) rfl #[.string a0_1] rfl (by (try simp only [List.map_toArray, List.map_cons, List.map_nil]); first | done | rfl | (simp only [List.length_drop, List.length_take]; rfl)) ?_; (with_reducible refine (impl_valueOK.calls a0_1 t195 _ A22.out).mono ?_); rintro e w24 ⟨rfl, hb⟩; refine ⟨_, rfl, ?_⟩; replace BK194 := am (blk_below (bq BK194.out) hb); replace HB := am (below_step (by repeat (with_reducible first | exact hq HB.out | refine bs ?_ GE194.out | refine us ?_)) hb); (try clear hb); (try clear hb2); (try clear hk); (try clear hi)))
              go_ret
              exact ⟨by first | rfl | (simp [errW_none, errW_some] <;> rfl) | (simp [*, errW_none, errW_some] <;> rfl), by repeat (with_reducible first | exact hq HB.out | refine bs ?_ GE194.out | refine us ?_)⟩

end Go.Proofs.Ytjhcphcjpndciaa.PFnExactTableAdd
