/- A lemma text: strings.ContainsAny at any string, valid UTF-8 or not, and ASCII signs of two or more bytes; no condition beyond the shelf's. -/
import Derived.Test.YtkcimmlaoipdkaaDoorProg
import Derived.Shelf.Strings.IndexAnyAll
import Derived.Shelf.Small.Utf8
import Derived.Lib.OthersKept
import Derived.Laws.Runes
import Derived.WalkKit
import Derived.Scope
import Derived.IntWalk
import Derived.Deep.DeepBigQuietO
namespace Go.Proofs.YtkcimmlaoipdkaaDoor.AnyRunes
open Go.Proofs Go.Shelf Go.RowKit Go.Lib
set_option linter.unusedVariables false
variable {P : Program} {ρ : Ren}
structure Aside0' (p : Prop) : Prop where mk :: (out : p)
theorem get_data (s : ByteArray) (i : Nat) (h : i < s.size) : s.data.toList[i]? = some (s.get! i) := by
  have e : s.get! i = s[i]'h := by
    show s.get! i = _
    simp [ByteArray.get!, getElem!_pos, h]
    rfl
  rw [e]
  exact Lib.data_getElem? s i h
theorem dec_bytes (s : ByteArray) (pos : Nat) (h : pos < s.size) (ha : 128 ≤ (s[pos]'h).toNat) : ∀ k, k < (Utf8.decode s pos).2 → pos + k < s.size ∧ 128 ≤ (s.get! (pos + k)).toNat := by
  have h0 : s.get! (pos + 0) = s[pos]'h := get_at s pos h
  have hn : ¬ (s[pos]'h).toNat < 128 := by omega
  have c0 : pos + 0 < s.size ∧ 128 ≤ (s.get! (pos + 0)).toNat := ⟨by omega, by rw [h0]; exact ha⟩
  intro k hk
  revert hk
  simp only [Utf8.decode, h0, hn, if_false]
  have one : ∀ k, k < 1 → pos + k < s.size ∧ 128 ≤ (s.get! (pos + k)).toNat := by
    intro k hk
    obtain rfl : k = 0 := by omega
    exact c0
  have cont : ∀ j, (decide (pos + j < s.size) && ((s.get! (pos + j)).toNat / 64 == 2)) = true → pos + j < s.size ∧ 128 ≤ (s.get! (pos + j)).toNat := by
    intro j hj
    rw [Bool.and_eq_true, decide_eq_true_eq, beq_iff_eq] at hj
    exact ⟨hj.1, by omega⟩
  split
  · rename_i hc
    rw [Bool.and_eq_true] at hc
    split
    · intro hk
      rcases (by omega : k = 0 ∨ k = 1) with rfl | rfl
      · exact c0
      · exact cont 1 hc.2
    · exact one k
  · split
    · rename_i hc
      rw [Bool.and_eq_true, Bool.and_eq_true] at hc
      split
      · intro hk
        rcases (by omega : k = 0 ∨ k = 1 ∨ k = 2) with rfl | rfl | rfl
        · exact c0
        · exact cont 1 hc.1.2
        · exact cont 2 hc.2
      · exact one k
    · split
      · rename_i hc
        rw [Bool.and_eq_true, Bool.and_eq_true, Bool.and_eq_true] at hc
        split
        · intro hk
          rcases (by omega : k = 0 ∨ k = 1 ∨ k = 2 ∨ k = 3) with rfl | rfl | rfl | rfl
          · exact c0
          · exact cont 1 hc.1.1.2
          · exact cont 2 hc.1.2
          · exact cont 3 hc.2
        · exact one k
      · exact one k
theorem noAny_skip {s : ByteArray} {chars : List UInt8} {i n : Nat} (h : Lib.NoAny s.data.toList chars i) (hn : ∀ k, k < n → i + k < s.size ∧ 128 ≤ (s.get! (i + k)).toNat) (hc : ∀ (j : Nat) b, chars[j]? = some b → b.toNat < 128) : Lib.NoAny s.data.toList chars (i + n) := by
  intro j b hj hb
  by_cases e : j < i
  · exact h j b e hb
  · obtain ⟨h1, h2⟩ := hn (j - i) (by omega)
    rw [show i + (j - i) = j by omega] at h1 h2
    rw [get_data s j h1] at hb
    cases hb
    cases hh : chars.contains (s.get! j) with
    | false => rfl
    | true =>
      have hm : s.get! j ∈ chars := by simpa using hh
      obtain ⟨q, hq⟩ := List.getElem?_of_mem hm
      have := hc q _ hq
      omega
theorem indexByte_miss (l : List UInt8) (c : UInt8) (h : ∀ (j : Nat) b, l[j]? = some b → b.toNat < 128) (hc : 128 ≤ c.toNat) : Lib.indexByte l c = -1 := by
  induction l with
  | nil => rfl
  | cons b l ih =>
    have hb := h 0 b rfl
    have e : (b == c) = false := by
      rw [beq_eq_false_iff_ne]
      intro e
      subst e
      omega
    rw [Lib.indexByte, e, ih (fun j x hx => h (j + 1) x (by simpa using hx))]
    simp

set_option maxHeartbeats 1000000 in
set_option maxRecDepth 1000000 in
/-- strings.IndexRune of the replacement rune in ASCII bytes. -/
theorem indexRune_error (L : Lays.n152 P ρ) (s : ByteArray) (w : World) (hascii : ∀ (j : Nat) b, s.data.toList[j]? = some b → b.toNat < 128) :
    Calls P (ρ.f 152) #[.string s, .int .i32 65533] w fun e w' => e = .returned (.int .i64 (-1)) ∧ Below w.heap.size w w' := by
  have HA : Aside (∀ (j : Nat) b, s.data.toList[j]? = some b → b.toNat < 128) := hascii
  clear hascii
  have mixed := L.mixed
  have t3 := L.t3; have a3 := L.a3; have z3 := L.z3; have v3 := L.v3
  have t4 := L.t4; have a4 := L.a4; have z4 := L.z4; have v4 := L.v4
  have t5 := L.t5; have a5 := L.a5; have z5 := L.z5; have v5 := L.v5
  have t9 := L.t9; have a9 := L.a9; have z9 := L.z9; have v9 := L.v9
  have t21 := L.t21; have a21 := L.a21; have z21 := L.z21; have v21 := L.v21
  go_enter L.f152, Body.n152_ntmps ρ
  go_wp2
  go_loopg [5, 6] s.size (fun g _ _ wx => ∃ i : Nat, i + g = s.size ∧ wx = w.iter s i)
  case atStart => exact ⟨0, by omega, rfl⟩
  case round =>
    obtain ⟨i, hig, rfl⟩ := hrel
    cases gk with
    | zero =>
      obtain rfl : i = s.size := by omega
      have hnx := run_next_end (P := P) w s s.size
      go_wp2
      go_ret
      exact ⟨rfl, (Below.refl _ _).alloc (Nat.le_refl _) _⟩
    | succ g =>
      have hi : i < s.size := by omega
      obtain ⟨x, hx⟩ : ∃ x : UInt8, s[i]'hi = x := ⟨_, rfl⟩
      have hxl : s.data.toList[i]? = some x := by rw [← hx]; exact Lib.data_getElem? s i hi
      have hx128 : x.toNat < 128 := HA.out i x hxl
      have hnx := fun ty => run_next_ascii (P := P) w s i ty hi (by rw [hx]; exact hx128)
      rw [hx] at hnx
      have hne : ((x.toNat : Int) == 65533) = false := beq_eq_false_iff_ne.2 (by omega)
      clear hxl hx
      go_wp2
      go_roundg g
      case measure => omega
      case rel => exact ⟨i + 1, by omega, rfl⟩

set_option maxHeartbeats 1000000 in
set_option maxRecDepth 1000000 in
/-- strings.IndexRune of a rune beyond ASCII in ASCII bytes. -/
theorem indexRune_high (L : Lays.n152 P ρ) (s : ByteArray) (r : Int) (w : World) (h1 : 128 ≤ r) (h2 : r ≠ 65533) (hs : s.size ≤ 4294967281) (hascii : ∀ (j : Nat) b, s.data.toList[j]? = some b → b.toNat < 128) :
    Calls P (ρ.f 152) #[.string s, .int .i32 r] w fun e w' => e = .returned (.int .i64 (-1)) ∧ ∃ q, w' = w.drewN q := by
  have HA : Aside (∀ (j : Nat) b, s.data.toList[j]? = some b → b.toNat < 128) := hascii
  clear hascii
  have mixed := L.mixed
  have t3 := L.t3; have a3 := L.a3; have z3 := L.z3; have v3 := L.v3
  have t4 := L.t4; have a4 := L.a4; have z4 := L.z4; have v4 := L.v4
  have t5 := L.t5; have a5 := L.a5; have z5 := L.z5; have v5 := L.v5
  have t9 := L.t9; have a9 := L.a9; have z9 := L.z9; have v9 := L.v9
  have t21 := L.t21; have a21 := L.a21; have z21 := L.z21; have v21 := L.v21
  have hne : (r == 65533) = false := beq_eq_false_iff_ne.2 h2
  have hlt : ¬ r < 128 := by omega
  have e119 : ∀ args w, (callFunc (ρ.f 119) args).run P w = .ok (.enter (ρ.f 119) args) w := enters_of L.f119 (by kernel_rfl) rfl
  have e137 : ∀ args w, (callFunc (ρ.f 137) args).run P w = .ok (.enter (ρ.f 137) args) w := enters_of L.f137 (by kernel_rfl) rfl
  cases hv : Lib.validRune r with
  | false =>
    go_enter L.f152, Body.n152_ntmps ρ
    go_wp2_with (go_at_fn (ρ.f 119); refine (Any.utf8_ValidRune { L with } _ _).mono ?_; rintro e w' ⟨rfl, hw⟩; rw [hw, hv])
    go_ret
    exact ⟨rfl, 0, rfl⟩
  | true =>
    have hv2 : Utf8.valid r = true := by
      have := of_decide_eq_true hv
      unfold Utf8.valid
      simp
      omega
    obtain ⟨f1, f2, f3⟩ := encode_facts r hv2 h1
    have hcv := fun (w : World) => run_convert_int_string (P := P) w (ρ.t 21) (ρ.t 9) .i32 r (by rw [L.t21]; rfl) L.t9
    generalize Utf8.encode r = E at f1 f2 f3 hcv
    obtain ⟨n, hn⟩ : ∃ n, E.size = n + 1 := ⟨E.size - 1, by omega⟩
    have hnE : n < E.size := by omega
    obtain ⟨x, hx⟩ : ∃ x : UInt8, E[n]'hnE = x := ⟨_, rfl⟩
    have hx128 : 128 ≤ x.toNat := by
      have := f3 (by omega)
      simp only [hn, Nat.add_sub_cancel] at this
      rw [← hx]
      exact this
    have HN : Aside (E.size = n + 1) := hn
    have hE : (E.size : Int) - 1 = (n : Int) := by omega
    clear f3 hn
    by_cases hsz : s.size ≤ n
    · have d1 : ¬ ((n : Int) < (s.size : Int)) := by omega
      go_enter L.f152, Body.n152_ntmps ρ
      go_wp2_with (go_at_fn (ρ.f 119); refine (Any.utf8_ValidRune { L with } _ _).mono ?_; rintro e w' ⟨rfl, hw⟩; rw [hw, hv])
      go_step3
      go_wp2
      refine wp_loop_rounds 1 ?_
      rw [rounds_succ]
      go_wp2
      simp only [Exit.noGoto]
      go_ret
      exact ⟨rfl, 0, rfl⟩
    · have hns : n < s.size := by omega
      have d1 : (n : Int) < (s.size : Int) := by omega
      obtain ⟨y, hy⟩ : ∃ y : UInt8, s[n]'hns = y := ⟨_, rfl⟩
      have hy128 : y.toNat < 128 := HA.out n y (by rw [← hy]; exact Lib.data_getElem? s n hns)
      have hm := fun w => Any.strings_IndexByte { L with } (s.extract (n + 1) s.size) (x.toNat : Int) w
      have hmiss : Lib.indexByte (s.extract (n + 1) s.size).data.toList ((x.toNat : Int)).toNat.toUInt8 = -1 := by
        rw [show ((x.toNat : Int)).toNat.toUInt8 = x from by simp]
        refine indexByte_miss _ _ ?_ hx128
        intro j b hj
        rw [Lib.extract_to_end, List.getElem?_drop] at hj
        exact HA.out _ b hj
      simp only [hmiss] at hm
      clear hmiss
      go_enter L.f152, Body.n152_ntmps ρ
      go_wp2_with (go_at_fn (ρ.f 119); refine (Any.utf8_ValidRune { L with } _ _).mono ?_; rintro e w' ⟨rfl, hw⟩; rw [hw, hv])
      go_step3
      go_wp2
      refine wp_loop_rounds 1 ?_
      rw [rounds_succ]
      go_wp2
      go_step3
      go_wp2
      go_big_quiet_o (fail)
      obtain ⟨w1, hw1⟩ : ∃ w1 : World, w1 = w.drewN nq := ⟨_, rfl⟩
      rw [← hw1]
      have HW1 : Aside0' (∃ q, w1 = w.drewN q) := ⟨nq, hw1⟩
      clear hw1
      go_wp2
      have q1 : IntKind.i64.wrap ((n : Int) + 1) = (n : Int) + 1 := IntWalk.i64_in _ (by omega)
      have q2 : (0 : Int) ≤ (n : Int) + 1 := by omega
      have q3 : ((n : Int) + 1).toNat = n + 1 := by omega
      have q4 : n + 1 ≤ s.size := by omega
      have hm2 : ∀ W, Calls P (ρ.f 137) #[.string (s.extract (n + 1) s.size), .int .u8 (x.toNat : Int)] W fun e w' => e = .returned (.int .i64 (-1)) ∧ ∃ q, w' = W.drewN q := fun W => (hm W).mono fun e w' ⟨h1, h2⟩ => ⟨h1, 0, h2⟩
      clear hm
      go_big_quiet_o (first | (go_at_fn (ρ.f 137); refine Calls.quiet_of (hm2 _)) | fail)
      go_wp2
      go_simp
      go_ret
      obtain ⟨q1, e1⟩ := HW1.out
      exact ⟨rfl, q1 + nq, by rw [e1, World.drewN_drewN]⟩

set_option maxHeartbeats 4000000 in
set_option maxRecDepth 1000000 in
/-- strings.IndexAny of at most 8 bytes, whatever they are, and two or more ASCII signs. -/
theorem indexAny_short (L : Lays.n153 P ρ) (s chars : ByteArray) (w : World) (h2 : 2 ≤ chars.size) (h8 : s.size ≤ 8) (hcs : chars.size < 4294967281) (hascii : ∀ (j : Nat) b, chars.data.toList[j]? = some b → b.toNat < 128) :
    Calls P (ρ.f 153) #[.string s, .string chars] w fun e w' => e = .returned (.int .i64 (Lib.indexAny s.data.toList chars.data.toList)) ∧ Below w.heap.size w w' := by
  have HA := Aside0'.mk hascii
  clear hascii
  have hemp : chars.toList.isEmpty = false := by
    rw [Lib.toList_data]
    cases h : chars.data.toList with
    | nil => have := Lib.size_eq chars; rw [h, List.length_nil] at this; omega
    | cons _ _ => rfl
  have hn1 : ((chars.size : Int) == 1) = false := beq_eq_false_iff_ne.2 (by omega)
  have h8z : decide ((8 : Int) < (s.size : Int)) = false := decide_eq_false (by omega)
  have mixed := L.mixed
  have t3 := L.t3; have a3 := L.a3; have z3 := L.z3; have v3 := L.v3
  have t4 := L.t4; have a4 := L.a4; have z4 := L.z4; have v4 := L.v4
  have t5 := L.t5; have a5 := L.a5; have z5 := L.z5; have v5 := L.v5
  have t9 := L.t9; have a9 := L.a9; have z9 := L.z9; have v9 := L.v9
  have t21 := L.t21; have a21 := L.a21; have z21 := L.z21; have v21 := L.v21
  have e152 : ∀ args w, (callFunc (ρ.f 152) args).run P w = .ok (.enter (ρ.f 152) args) w := enters_of L.f152 (by kernel_rfl) rfl
  have e226 : ∀ args w, (callFunc (ρ.f 226) args).run P w = .ok (.enter (ρ.f 226) args) w := enters_of L.f226 (by kernel_rfl) rfl
  go_enter L.f153, Body.n153_ntmps ρ
  go_wp2_with (go_at_fn (ρ.f 226); refine (Any.strings_shouldUseASCIISet { L with } _ _).mono ?_; rintro e w' ⟨rfl, hw⟩; rw [hw, h8z])
  go_loopg [9, 10] s.size (fun g _ _ wx => ∃ i : Nat, Aside0' (i + g ≤ s.size + g ∧ i + g ≥ s.size) ∧ wx.heap[w.heap.size]? = some (.stringIter s i) ∧ Aside0' (Below w.heap.size w wx) ∧ Aside0' (Lib.NoAny s.data.toList chars.data.toList i))
  case atStart => exact ⟨0, ⟨by omega⟩, World.iter_heap w s 0, ⟨(Below.refl _ _).alloc (Nat.le_refl _) _⟩, ⟨Lib.NoAny.zero _ _⟩⟩
  case round =>
    obtain ⟨i, Hi, hit, HB, HN⟩ := hrel
    have hik := Hi.out
    by_cases hi : i < s.size
    · obtain ⟨g, rfl⟩ : ∃ g, gk = g + 1 := ⟨gk - 1, by omega⟩
      have hnx : ∀ ty, (Instr.next (.pointer (some ⟨w.heap.size, 0, none⟩)) true ty).run P wr = _ := fun ty => Lib.run_next_any_at wr w.heap.size s i ty hit hi
      have hit2 := Lib.iterAt_heap wr w.heap.size s i (i + (Utf8.decode s i).2) hit
      have hbw2 := Lib.below_iterAt HB.out (k := w.heap.size) (Nat.le_refl _) s (i + (Utf8.decode s i).2)
      have HB2 := Aside0'.mk hbw2
      have HIT2 := Aside0'.mk hit2
      clear hbw2 hit2 hit
      obtain ⟨x, hx⟩ : ∃ x : UInt8, s[i]'hi = x := ⟨_, rfl⟩
      have hxl : s.data.toList[i]? = some x := by rw [← hx]; exact Lib.data_getElem? s i hi
      by_cases ha : x.toNat < 128
      · have hd := decode_ascii s i hi (by rw [hx]; exact ha)
        rw [hx] at hd
        rw [hd] at hnx HB2 HIT2
        have Hx := Aside0'.mk hxl
        clear hxl hx hd
        have hcon := Lib.contains_iff_indexByte chars.data.toList x
        have hback : ((x.toNat : Int)).toNat.toUInt8 = x := by simp
        generalize hW2 : wr.iterAt w.heap.size s (i + (x.toNat, 1).2) = W2 at hnx HB2 HIT2
        clear hW2
        cases hin : chars.data.toList.contains x
        · rw [hin] at hcon
          have hlt : ¬ ((0 : Int) ≤ Lib.indexByte chars.data.toList x) := of_decide_eq_false hcon.symm
          clear hcon
          go_wp2_with (go_at_fn (ρ.f 152); refine (Any.strings_IndexRune_ascii { L with } _ _ _ (by omega) (by omega)).mono ?_; rintro e w' ⟨rfl, hw⟩; rw [hw, hback])
          go_roundg g
          case measure => omega
          case rel => exact ⟨i + 1, ⟨by omega⟩, HIT2.out, HB2, ⟨HN.out.succ Hx.out hin⟩⟩
        · rw [hin] at hcon
          have hge : (0 : Int) ≤ Lib.indexByte chars.data.toList x := of_decide_eq_true hcon.symm
          clear hcon
          go_wp2_with (go_at_fn (ρ.f 152); refine (Any.strings_IndexRune_ascii { L with } _ _ _ (by omega) (by omega)).mono ?_; rintro e w' ⟨rfl, hw⟩; rw [hw, hback])
          go_ret
          exact ⟨by rw [Lib.indexAny_hit HN.out Hx.out hin]; rfl, HB2.out⟩
      · have hdh := decode_high s i hi (by rw [hx]; omega)
        have hdb := noAny_skip HN.out (dec_bytes s i hi (by rw [hx]; omega)) HA.out
        have hle := dec_bytes s i hi (by rw [hx]; omega) ((Utf8.decode s i).2 - 1) (by omega)
        generalize hD : Utf8.decode s i = D at hnx HB2 HIT2 hdh hdb hle
        obtain ⟨c, n⟩ := D
        simp only at hnx HB2 HIT2 hdh hdb hle
        obtain ⟨hle, _⟩ := hle
        have HNn := Aside0'.mk hdb
        clear hD hdb hxl hx
        generalize hW2 : wr.iterAt w.heap.size s (i + n) = W2 at hnx HB2 HIT2
        clear hW2
        have hlt0 : W2.heap.size > w.heap.size := (Array.getElem?_eq_some_iff.1 HIT2.out).1
        by_cases he : c = 65533
        · subst he
          go_wp2_with (go_at_fn (ρ.f 152); refine (indexRune_error { L with } _ _ HA.out).mono ?_; rintro e w1 ⟨rfl, hb⟩; have HB3 := Aside0'.mk hb; clear hb)
          go_roundg g
          case measure => omega
          case rel => exact ⟨i + n, ⟨by omega⟩, (HB3.out.block _ hlt0).trans HIT2.out, ⟨HB2.out.trans (HB3.out.mono (Nat.le_of_lt hlt0))⟩, HNn⟩
        · go_wp2_with (go_at_fn (ρ.f 152); refine (indexRune_high { L with } _ _ _ (by omega) (by omega) (by omega) HA.out).mono ?_; rintro e w1 ⟨rfl, q, hq⟩; have HQ := Aside0'.mk hq; clear hq)
          go_roundg g
          case measure => omega
          case rel => exact ⟨i + n, ⟨by omega⟩, by rw [HQ.out]; exact HIT2.out, ⟨by rw [HQ.out]; exact HB2.out.trans ⟨rfl, rfl, rfl, Nat.le_refl _, fun _ _ => rfl⟩⟩, HNn⟩
    · have hnx : ∀ ty, (Instr.next (.pointer (some ⟨w.heap.size, 0, none⟩)) true ty).run P wr = _ := fun ty => Lib.run_next_end_at wr w.heap.size s i ty hit hi
      go_wp2
      go_ret
      have hn : Lib.NoAny s.data.toList chars.data.toList s.data.toList.length := fun j b hj hb => HN.out j b (by have := Lib.size_eq s; omega) hb
      exact ⟨by rw [Lib.indexAny_none hn]; rfl, HB.out⟩

set_option maxHeartbeats 1000000 in
/-- strings.ContainsAny of whatever bytes, and two or more ASCII signs. -/
theorem containsAny_any (L : Lays.n150 P ρ) (h116 : (P.info? (ρ.t 116)).map (fun i => (i.zero, i.size)) = some (some (.agg (Array.replicate 256 (.bool false))), 256)) (s chars : ByteArray) (w : World) (h2 : 2 ≤ chars.size) (hs : s.size < 4294967281) (hcs : chars.size < 4294967281)
    (hac : ∀ (j : Nat) b, chars.data.toList[j]? = some b → b.toNat < 128) :
    Calls P (ρ.f 150) #[.string s, .string chars] w fun e w' => e = .returned (.bool (Lib.containsAny s.data.toList chars.data.toList)) ∧ Below w.heap.size w w' := by
  have c : Calls P (ρ.f 153) #[.string s, .string chars] w fun e w' => e = .returned (.int .i64 (Lib.indexAny s.data.toList chars.data.toList)) ∧ Below w.heap.size w w' := by
    by_cases h8 : s.size ≤ 8
    · exact indexAny_short { L with } s chars w h2 h8 hcs hac
    · refine (Any.strings_IndexAny_long { L with } (zero_of_info h116).1 (zero_of_info h116).2 s chars w h2 (by omega) hs hcs hac).mono fun e w' ⟨h1, h2⟩ => ⟨h1, ?_⟩
      rw [h2]
      exact ((Below.refl _ _).alloc (Nat.le_refl _) _).alloc (by simp) _
  have t3 := L.t3; have a3 := L.a3; have z3 := L.z3; have v3 := L.v3
  have t4 := L.t4; have a4 := L.a4; have z4 := L.z4; have v4 := L.v4
  have t9 := L.t9; have a9 := L.a9; have z9 := L.z9; have v9 := L.v9
  have e153 : ∀ args w, (callFunc (ρ.f 153) args).run P w = .ok (.enter (ρ.f 153) args) w := enters_of L.f153 (by kernel_rfl) rfl
  go_enter L.f150, Body.n150_ntmps ρ
  go_wp2_with (go_at_fn (ρ.f 153); refine c.mono ?_; rintro e w' ⟨rfl, hw⟩)
  go_ret
  exact ⟨rfl, hw⟩
end Go.Proofs.YtkcimmlaoipdkaaDoor.AnyRunes
namespace Go.Proofs
open Go.Shelf
def Tryd.lays150_ren : Go.Shelf.Ren := ⟨fun | 150 => 96 | 153 => 113 | 152 => 108 | 226 => 130 | 227 => 66 | 228 => 86 | 137 => 126 | 119 => 127 | 224 => 124 | 225 => 123 | 217 => 122 | 266 => 133 | n => n, fun | 9 => 9 | 4 => 4 | 3 => 3 | 5 => 5 | 21 => 21 | 117 => 97 | 116 => 96 | 0 => 0 | 46 => 130 | 124 => 100 | n => n, fun | n => n⟩
theorem Tryd.lays150 : Go.Proofs.Lays.n150 Tryd.prog Tryd.lays150_ren := {
  mixed := by kernel_rfl
  f119 := Tryd.func127.trans (congrArg some (by kernel_rfl))
  f137 := Tryd.func126.trans (congrArg some (by kernel_rfl))
  f150 := Tryd.func96.trans (congrArg some (by kernel_rfl))
  f152 := Tryd.func108.trans (congrArg some (by kernel_rfl))
  f153 := Tryd.func113.trans (congrArg some (by kernel_rfl))
  f217 := Tryd.func122.trans (congrArg some (by kernel_rfl))
  f224 := Tryd.func124.trans (congrArg some (by kernel_rfl))
  f225 := Tryd.func123.trans (congrArg some (by kernel_rfl))
  f226 := Tryd.func130.trans (congrArg some (by kernel_rfl))
  f227 := Tryd.func66.trans (congrArg some (by kernel_rfl))
  f228 := Tryd.func86.trans (congrArg some (by kernel_rfl))
  f266 := Tryd.func133.trans (congrArg some (by kernel_rfl))
  t0 := Tryd.underlying0
  a0 := Tryd.isAgg0
  z0 := Tryd.sizeOf0
  v0 := Tryd.zeroValue0
  t3 := Tryd.underlying3
  a3 := Tryd.isAgg3
  z3 := Tryd.sizeOf3
  v3 := Tryd.zeroValue3
  t4 := Tryd.underlying4
  a4 := Tryd.isAgg4
  z4 := Tryd.sizeOf4
  v4 := Tryd.zeroValue4
  t5 := Tryd.underlying5
  a5 := Tryd.isAgg5
  z5 := Tryd.sizeOf5
  v5 := Tryd.zeroValue5
  t9 := Tryd.underlying9
  a9 := Tryd.isAgg9
  z9 := Tryd.sizeOf9
  v9 := Tryd.zeroValue9
  t21 := Tryd.underlying21
  a21 := Tryd.isAgg21
  z21 := Tryd.sizeOf21
  v21 := Tryd.zeroValue21
  t46 := Tryd.underlying130
  a46 := Tryd.isAgg130
  z46 := Tryd.sizeOf130
  v46 := Tryd.zeroValue130
  t116 := Tryd.underlying96
  a116 := Tryd.isAgg96
  z116 := Tryd.sizeOf96
  t117 := Tryd.underlying97
  a117 := Tryd.isAgg97
  z117 := Tryd.sizeOf97
  v117 := Tryd.zeroValue97
  t124 := Tryd.underlying100
  a124 := Tryd.isAgg100
  z124 := Tryd.sizeOf100
  v124 := Tryd.zeroValue100 }
end Go.Proofs
