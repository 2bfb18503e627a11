-- Written by a program of this repo (xprint.py) out of the translation; Lean checks it.
import Derived.Test.YtolpikjbdfpdcaaPFnExactTokenCheckx0
import Derived.Test.YtolpikjbdfpdcaaPFnExactTokenCheckx3
import Derived.Test.YtolpikjbdfpdcaaPFnExactTokenCheckx5
namespace Go.Proofs.Ytolpikjbdfpdcaa.PFnExactTokenCheck
open Go.RowKit Go.Proofs.YtolpikjbdfpdcaaW.PrintWords Go.Proofs.YtolpikjbdfpdcaaW.PrintLast Go.Proofs.YtolpikjbdfpdcaaW.PrintMore
attribute [local go_sem] max2_int min2_int max_two min_two max_three min_three max_four min_four   -- for this text's walks alone
set_option linter.unusedVariables false
set_option linter.unusedSimpArgs false

/-! ### spec_Derive: function 69 -/
theorem spec_Derive.reads_of_cells {W : World} {ad : Addr} {xs : List Int} (hm : xs.length ≤ 9223372036854775807) (h : ∀ j (hj : j < xs.length), W.cell? (ad.add j) = some (.int .u8 xs[j])) :
    ReadsInt W .u8 (some ad) xs.length xs := by
  refine ⟨rfl, by omega, fun _ => ⟨ad, rfl, fun j hj => ?_⟩⟩
  have := h j hj
  simp [this, List.getD_eq_getElem?_getD, List.getElem?_eq_getElem hj]
theorem spec_Derive.conv_append {P : Program} {ops : Array Oper} {rest : List Oper} {o : Oper} {a : Act} {Q : Exit → Act → World → Prop}
    (hg : o.guard = none) (s x : Operand) (t : TypeId) (hop : o.op = Op.call { callee := Callee.builtin Builtin.append, args := #[s, x], argTypes := #[t, t] })
    (e : TypeId) (z : Value) (h1 : P.underlying t = some (.slice e)) (hinfo : (P.info? e).map (fun i => (i.zero, i.size, i.bytes)) = some (some z, 1, 1)) (h6 : z.cells.size = 1)
    (w0 : World) (str : ByteArray) (y : Int) (hsz : str.size ≤ 1000)
    (hs : a.eval s = .slice (some ⟨w0.heap.size, 0, none⟩) str.size (grownCap w0 str.size 0 e))
    (hx : a.eval x = .slice (some ⟨(Lib.bytesWorld w0 e str).heap.size, 0, none⟩) 1 1)
    (hK : ∀ A c w' (xs : List Int), xs = bytesOf str ++ [y] → Kd.C (Kd.int .u8) w' A xs.length xs → xs.length ≤ c → (∀ ad, A = some ad → w0.heap.size ≤ ad.block) → Below w0.heap.size w0 w' → w0.heap.size < w'.heap.size → wpList P ops Q rest (a.put o.dst (.slice A xs.length c)) w') :
    wpList P ops Q (o :: rest) a ((Lib.bytesWorld w0 e str).alloc (.cells #[.int .u8 y] e)) := by
  obtain ⟨i, h2, hzz⟩ := Option.map_eq_some_iff.1 hinfo
  simp only [Prod.mk.injEq] at hzz
  obtain ⟨h3, h4, h5⟩ := hzz
  replace hK : ∀ A c w', ReadsInt w' .u8 A (str.size + 1) (bytesOf str ++ [y]) → str.size + 1 ≤ c → (∀ ad, A = some ad → w0.heap.size ≤ ad.block) → Below w0.heap.size w0 w' → w0.heap.size < w'.heap.size → wpList P ops Q rest (a.put o.dst (.slice A (str.size + 1) c)) w' := by
    intro A c w' hr hc
    have hl : (bytesOf str ++ [y]).length = str.size + 1 := by simp [bytesOf_length]
    have := hK A c w' (bytesOf str ++ [y]) rfl (by rw [hl]; exact Kd.C_of_reads (enc := Value.int .u8) (d := 0) hr) (by rw [hl]; exact hc)
    rw [hl] at this
    exact this
  have hbs := Lib.bytesWorld_size w0 e str
  have hcell : ∀ j, j < (Lib.bytesCells w0 e str).size → ((Lib.bytesWorld w0 e str).alloc (.cells #[.int .u8 y] e)).cell? ⟨w0.heap.size, j, none⟩ = some ((Lib.bytesCells w0 e str)[j]!) := by
    intro j hj
    have : ((Lib.bytesWorld w0 e str).alloc (.cells #[.int .u8 y] e)).heap[w0.heap.size]? = some (.cells (Lib.bytesCells w0 e str) e ((Lib.bytesCells w0 e str).size, (Lib.bytesCells w0 e str).size + 1)) := by
      exact (show ((Lib.bytesWorld w0 e str).alloc _).heap[w0.heap.size]? = (Lib.bytesWorld w0 e str).heap[w0.heap.size]? from by simp only [World.alloc]; rw [Array.getElem?_push_lt (by omega)]; simp [hbs]).trans (Lib.bytesWorld_at_new w0 e str)
    simp [World.cell?, this, hj]
  have hfr : ∀ j, j < (Lib.bytesCells w0 e str).size → ((Lib.bytesWorld w0 e str).alloc (.cells #[.int .u8 y] e)).frozen? ⟨w0.heap.size, j, none⟩ = false := by
    intro j hj
    have : ((Lib.bytesWorld w0 e str).alloc (.cells #[.int .u8 y] e)).heap[w0.heap.size]? = some (.cells (Lib.bytesCells w0 e str) e ((Lib.bytesCells w0 e str).size, (Lib.bytesCells w0 e str).size + 1)) := by
      exact (show ((Lib.bytesWorld w0 e str).alloc _).heap[w0.heap.size]? = (Lib.bytesWorld w0 e str).heap[w0.heap.size]? from by simp only [World.alloc]; rw [Array.getElem?_push_lt (by omega)]; simp [hbs]).trans (Lib.bytesWorld_at_new w0 e str)
    simp [World.frozen?, this]
    intro h; omega
  have hge := grownCap_ge w0 str.size 0 e
  have hcs : (Lib.bytesCells w0 e str).size = grownCap w0 str.size 0 e := by
    have : str.data.size = str.size := rfl
    simp [Lib.bytesCells, this]; omega
  have hb0 : Below w0.heap.size w0 ((Lib.bytesWorld w0 e str).alloc (.cells #[.int .u8 y] e)) := below_alloc (bytes_below (Below.refl _ _) (Nat.le_refl _) e str) _
  have hold : ∀ j (hj : j < (bytesOf str).length), (Lib.bytesCells w0 e str)[j]! = .int .u8 (bytesOf str)[j] := by
    intro j hj
    have hj' : j < str.size := by rw [bytesOf_length] at hj; exact hj
    have hj2 : j < str.data.size := hj'
    simp [Lib.bytesCells, bytesOf, Array.getElem!_eq_getD, Array.getD_eq_getD_getElem?, Array.getElem?_append, hj']
  have hlen := bytesOf_length str
  refine wpList_append_arg _ hg s x t hop e i z 1 1 h1 h2 h3 h4 h5 h6 (by decide) w0.heap.size 0 str.size (grownCap w0 str.size 0 e) ((bytesOf str).map (.int .u8)) hs (by simp [hlen]) ?olds
    ⟨(Lib.bytesWorld w0 e str).heap.size, 0, none⟩ 1 1 [.int .u8 y] hx (by simp) ?news (by simp [Value.oneCell']) ?spare (by simp only [maxLen]; omega) (by omega) ?room ?grow
  case olds =>
    intro j u hj
    have hj' : j < (bytesOf str).length := by
      have := (List.getElem?_eq_some_iff.1 hj).1; simpa using this
    rw [Nat.zero_add, hcell j (by rw [hcs]; omega), hold j hj', ← hj]
    simp [List.getElem?_eq_getElem hj']
  case news =>
    intro j u hj
    have hj' : j = 0 := by
      have := (List.getElem?_eq_some_iff.1 hj).1; simp at this; omega
    subst hj'
    simp at hj
    subst hj
    rw [Addr.add_lit]
    have hh : ((Lib.bytesWorld w0 e str).alloc (.cells #[.int .u8 y] e)).heap[(Lib.bytesWorld w0 e str).heap.size]? = some (.cells #[.int .u8 y] e) := Array.getElem?_push_size
    unfold World.cell?
    simp only [hh]
    rfl
  case spare =>
    intro hc j hj
    simp at hj
    subst hj
    refine ⟨?_, hfr _ (by rw [hcs]; omega)⟩
    rw [hcell _ (by rw [hcs]; omega)]; rfl
  case room =>
    intro hc
    have hin := World.cell?_setCells_in w0.heap.size [.int .u8 y] (0 + str.size * 1) ((Lib.bytesWorld w0 e str).alloc (.cells #[.int .u8 y] e)) (fun j hj => by
      simp at hj; subst hj
      rw [hcell _ (by rw [hcs]; omega)]; rfl)
    refine hK _ _ _ ?_ hc (fun ad h => by cases h; exact Nat.le_refl _) ?_ ?_
    · have h := spec_Derive.reads_of_cells (W := ((Lib.bytesWorld w0 e str).alloc (.cells #[.int .u8 y] e)).setCells w0.heap.size (0 + str.size * 1) [.int .u8 y]) (ad := ⟨w0.heap.size, 0, none⟩) (xs := bytesOf str ++ [y]) (by simp [hlen]; omega) (fun j hj => by
        rw [Addr.add_lit]
        by_cases hj1 : j < (bytesOf str).length
        · rw [World.cell?_setCells_out _ _ _ _ _ (fun _ _ => Or.inl (by simp; omega)), Nat.zero_add, hcell j (by rw [hcs]; omega), hold j hj1, List.getElem_append_left hj1]
        · have hj2 : j = str.size := by simp [hlen] at hj; omega
          subst hj2
          have := hin 0 (by simp)
          simp at this
          rw [Nat.zero_add]
          simp [hlen] at this ⊢
          rw [this])
      simpa [hlen] using h
    · exact hb0.setCell (Nat.le_refl _) _
    · have := hb0.size
      have e1 : ((((Lib.bytesWorld w0 e str).alloc (.cells #[.int .u8 y] e)).setCells w0.heap.size (0 + str.size * 1) [.int .u8 y])).heap.size = ((Lib.bytesWorld w0 e str).alloc (.cells #[.int .u8 y] e)).heap.size := World.size_setCell ..
      have e2 : ((Lib.bytesWorld w0 e str).alloc (.cells #[.int .u8 y] e)).heap.size = w0.heap.size + 2 := (Array.size_push ..).trans (by rw [hbs])
      omega
  case grow =>
    intro hc v' w' ho hg'
    have e2 : ((Lib.bytesWorld w0 e str).alloc (.cells #[.int .u8 y] e)).heap.size = w0.heap.size + 2 := (Array.size_push ..).trans (by rw [hbs])
    have ho' : w'.ownsRow ((Lib.bytesWorld w0 e str).alloc (.cells #[.int .u8 y] e)).heap.size e 1 v' (str.size + 1) (nums .u8 (bytesOf str ++ [y])) := by
      rw [nums_append]; exact ho
    obtain ⟨A, c, rfl, hr⟩ := own_reads ho'
    have hle := own_le ho'
    have hbase := own_base ho'
    refine hK A c w' hr hle (fun ad h => ?_) (pw_below_grown hb0 none (by omega) hg' (by simp)) ?_
    · subst h
      rcases ho'.2 with ⟨h, _⟩ | ⟨g, cap, cur, h, hb, _⟩
      · cases h
      · cases h; simp only; omega
    · have := hg'.size; omega
def spec_Derive.l0 : Nat → List Int → ByteArray → Int → Int → List Int → Option (List Int)
  | 0, _, _, _, _, _ => none
  | k + 1, l0, a1, a2, i, o =>
    if (o.length : Int) < a2 then
      (if 0 ≤ i ∧ i < 100 ∧ o.length ≤ 1000 then (spec_l03Digest.f k l0 (bytesOf a1 ++ [i % 256])).bind fun t => if t.length ≤ 100 then spec_Derive.l0 k l0 a1 a2 (i + 1) (o ++ t) else none else none)
    else (if 0 ≤ a2 then some (o.take a2.toNat) else none)
def spec_Derive.f (k : Nat) (l0 : List Int) (a1 : ByteArray) (a2 : Int) : Option (List Int) :=
  if l0.length ≠ 16 then some [] else if 32 < a1.size then some [] else if a2 < 1 then some [] else if 64 < a2 then some [] else spec_Derive.l0 k l0 a1 a2 0 []
theorem spec_Derive.mono_l : ∀ k, (∀ y0 y1 y2 y3 y4, LeO (spec_Derive.l0 k y0 y1 y2 y3 y4) (spec_Derive.l0 (k + 1) y0 y1 y2 y3 y4))
  | 0 => fun _ _ _ _ _ r h => by simp [spec_Derive.l0] at h
  | k + 1 => by
    have ih0 := spec_Derive.mono_l k
    intro y0 y1 y2 y3 y4
    unfold spec_Derive.l0
    repeat' first
      | (with_reducible exact ih0 _ _ _ _ _)
      | (with_reducible exact spec_l03Digest.mono _ _ _)
      | (with_reducible exact LeO.refl _)
      | (with_reducible exact LeO.none _)
      | (with_reducible refine LeO.ite ?_ ?_)
      | (with_reducible refine LeO.bind ?_ (fun _ => ?_))
theorem spec_Derive.mono : ∀ a0 a1 a2 k, LeO (spec_Derive.f k a0 a1 a2) (spec_Derive.f (k + 1) a0 a1 a2) := by
  intro a0 a1 a2 k
  unfold spec_Derive.f
  repeat' first
      | (with_reducible exact spec_Derive.mono_l _ _ _ _ _ _)
      | (with_reducible exact LeO.refl _)
      | (with_reducible exact LeO.none _)
      | (with_reducible refine LeO.ite ?_ ?_)
set_option maxHeartbeats 8000000 in
set_option maxRecDepth 100000 in
theorem spec_Derive.calls (k : Nat) (A0 : Option Addr) (c0 : Nat) (l0 : List Int) (a1 : ByteArray) (a2 : Int) (r : List Int) (w : World) (hr0 : Kd.C (Kd.int .u8) w A0 l0.length l0) (hc0 : l0.length ≤ c0) (h : spec_Derive.f k l0 a1 a2 = some r) :
    Calls Try.prog 69 #[.slice A0 l0.length c0, .string a1, .int .i64 a2] w fun e w' => ∃ v0_ : Value, e = .returned (v0_) ∧ Kd.R (Kd.int .u8) 5 w' w.heap.size (fun _ => True) v0_ r ∧ Below w.heap.size w w' := by
  have HR0 := Aside0.mk hr0
  have HC0 := Aside0.mk hc0
  clear hr0 hc0
  have HB := Aside0.mk (Below.refl w.heap.size w)
  unfold spec_Derive.f at h
  by_cases c1 : l0.length ≠ 16
  · rw [if_pos c1] at h
    obtain rfl := Option.some.inj h
    have b1 : ((l0.length : Int) != 16) = true := bne_iff_ne.mpr (by omega)
    go_enter Try.func69, Try.ntmps69
    go_wp2
    go_ret
    exact ⟨_, rfl, ⟨fun _ _ => trivial, [], own_lit _ w.heap.size 5 .u8 [] (Nat.le_refl _) (by simp), Reps.none _ _⟩, below_alloc HB.out _⟩
  · rw [if_neg c1] at h
    have b1 : ((l0.length : Int) != 16) = false := bne_eq_false_iff_eq.mpr (by omega)
    by_cases c2 : 32 < a1.size
    · rw [if_pos c2] at h
      obtain rfl := Option.some.inj h
      have b2 : decide ((32 : Int) < (a1.size : Int)) = true := decide_eq_true (by omega)
      have b2n : decide (32 < a1.size) = true := decide_eq_true c2
      clear c1
      go_enter Try.func69, Try.ntmps69
      go_wp2
      go_ret
      exact ⟨_, rfl, ⟨fun _ _ => trivial, [], own_lit _ w.heap.size 5 .u8 [] (Nat.le_refl _) (by simp), Reps.none _ _⟩, below_alloc HB.out _⟩
    · rw [if_neg c2] at h
      have b2 : decide ((32 : Int) < (a1.size : Int)) = false := decide_eq_false (by omega)
      have b2n : decide (32 < a1.size) = false := decide_eq_false c2
      by_cases c3 : a2 < 1
      · rw [if_pos c3] at h
        obtain rfl := Option.some.inj h
        have b3 : decide (a2 < 1) = true := decide_eq_true c3
        clear c1
        go_enter Try.func69, Try.ntmps69
        go_wp2
        go_ret
        exact ⟨_, rfl, ⟨fun _ _ => trivial, [], own_lit _ w.heap.size 5 .u8 [] (Nat.le_refl _) (by simp), Reps.none _ _⟩, below_alloc HB.out _⟩
      · rw [if_neg c3] at h
        have b3 : decide (a2 < 1) = false := decide_eq_false c3
        by_cases c4 : 64 < a2
        · rw [if_pos c4] at h
          obtain rfl := Option.some.inj h
          have b4 : decide (64 < a2) = true := decide_eq_true c4
          clear c1
          go_enter Try.func69, Try.ntmps69
          go_wp2
          go_ret
          exact ⟨_, rfl, ⟨fun _ _ => trivial, [], own_lit _ w.heap.size 5 .u8 [] (Nat.le_refl _) (by simp), Reps.none _ _⟩, below_alloc HB.out _⟩
        · rw [if_neg c4] at h
          have b4 : decide (64 < a2) = false := decide_eq_false c4
          have HD := Aside0.mk h
          have HL := Aside0.mk (show l0.length = 16 from by omega)
          have HS := Aside0.mk (show a1.size ≤ 32 from by omega)
          have h1 : 1 ≤ a2 := by omega
          have h64 : a2 ≤ 64 := by omega
          clear h c1
          go_enter Try.func69, Try.ntmps69
          go_wp2
          obtain ⟨W1, hW1⟩ : ∃ W_ : World, W_ = w.alloc (.cells #[] 5) := ⟨_, rfl⟩
          have HO1 : Aside0 (Kd.R (Kd.int .u8) 5 W1 w.heap.size (fun _ => True) (.slice (some ⟨w.heap.size, 0, none⟩) 0 0) []) := ⟨by
            rw [hW1]
            exact ⟨fun k hk => trivial, [], own_lit w w.heap.size 5 .u8 [] (Nat.le_refl _) (by simp), Reps.none _ _⟩⟩
          have HB1 : Aside0 (Below w.heap.size w W1) := ⟨by rw [hW1]; exact below_alloc HB.out _⟩
          rw [← hW1]
          clear hW1
          go_loopg [7, 8] k (fun kq v7 v8 w' => ∃ (vo : Value) (o : List Int) (i : Int), v7 = vo ∧ v8 = .int .i64 i ∧ Aside0 (spec_Derive.l0 kq l0 a1 a2 i o = some r) ∧ Aside0 (kq ≤ k) ∧ Aside0 (Kd.R (Kd.int .u8) 5 w' w.heap.size (fun _ => True) vo o) ∧ Aside0 (Below w.heap.size w w'))
          case atStart => exact ⟨_, [], 0, rfl, rfl, HD, ⟨Nat.le_refl _⟩, HO1, HB1⟩
          case round =>
            obtain ⟨vo, o, i, rfl, rfl, HA, HK, HO, HBr⟩ := hrel
            cases gk with
            | zero => exact absurd HA.out (by simp [spec_Derive.l0])
            | succ m =>
            obtain ⟨Ao, co, rfl⟩ := Kd.R_slice HO.out
            have ha := HA.out
            clear HA
            simp only [spec_Derive.l0] at ha
            by_cases d1 : (o.length : Int) < a2
            · rw [if_pos d1] at ha
              have e1 : decide ((o.length : Int) < a2) = true := decide_eq_true d1
              by_cases d2 : 0 ≤ i ∧ i < 100 ∧ o.length ≤ 1000
              · rw [if_pos d2] at ha
                obtain ⟨d3, d4, d5⟩ := d2
                obtain ⟨t, ht, ha⟩ := Option.bind_eq_some_iff.1 ha
                by_cases d6 : t.length ≤ 100
                · rw [if_pos d6] at ha
                  have HA := Aside0.mk ha
                  have HT := Aside0.mk ht
                  clear ha
                  have kb := fun W => print_bytes (P := Try.prog) 9 22 5 Try.underlying9 Try.underlying22 Try.underlying5 a1 W
                  go_wp2_with (first | ((with_reducible refine gate_builtin (b := .append) (xs := #[.tmp 36, .tmp 39]) rfl ?_); at_builtin; refine spec_Derive.conv_append rfl (.tmp 36) (.tmp 39) 22 rfl 5 (.int .u8 0) Try.underlying22 info5 rfl _ a1 _ (by have := HS.out; omega) rfl rfl ?_; intro A1 c1 w1 xs hxs hC hc hfar hb hlt; have hxs1 := Aside0.mk hxs; have hC1 := Aside0.mk hC; have hc1 := Aside0.mk hc; have hb1 := Aside0.mk hb; clear hxs hC hc hb hfar hlt) | fail)
                  have hxs := hxs1.out
                  have hC := hC1.out
                  have hc := hc1.out
                  have hb := hb1.out
                  rw [show i % 256 = i by omega, ← hxs] at ht
                  have HT1 := Aside0.mk ht
                  have HB2 := Aside0.mk (below_then HBr.out HBr.out.size hb)
                  have HX1 := Aside0.mk hC
                  have HX2 := Aside0.mk hc
                  have HO2 := Aside0.mk (Kd.R_below HO.out hb)
                  have HR2 := Aside0.mk (Kd.C_below HR0.out (below_then HBr.out HBr.out.size hb))
                  clear ht hxs hC hc hb kb HO HBr HT hxs1 hC1 hc1 hb1
                  go_wp2_with (fail)
                  refine (spec_l03Digest.calls m _ _ l0 _ _ xs t _ HR2.out HC0.out HX1.out HX2.out HT1.out).mono ?_
                  rintro e w2 ⟨v2, rfl, hR3, hB3⟩
                  obtain ⟨At, ct, rfl, hl3, hC3⟩ := Kd.R_reads hR3
                  have HB3 := Aside0.mk (below_then HB2.out HB2.out.size hB3)
                  have HO3 := Aside0.mk (Kd.R_below HO2.out hB3)
                  have HX3 := Aside0.mk hC3
                  clear hR3 hB3 hl3 hC3 HO2 HB2 HR2 HX1 HX2
                  go_wp2_with (first | ((with_reducible refine gate_builtin (b := .append) (xs := #[.tmp 33, .tmp 41]) rfl ?_); at_builtin; refine Kd.R_append_rows (Kd.int .u8) (w0 := w) w.heap.size rfl (.tmp 33) (.tmp 41) 22 5 (.int .u8 0) 1 rfl Try.underlying22 info5 rfl (by decide) (by omega) _ o t _ _ _ (fun _ => True) (fun _ => False) rfl rfl HO3.out HX3.out (fun _ _ h => h) (fun _ h => h.elim) (fun _ _ => trivial) HB3.out HB3.out.size (by omega) ?_))
                  intro v4 w4 ho4 hb4 hg4 hat4
                  obtain ⟨A4, c4, rfl⟩ := Kd.R_slice ho4
                  have HO4 := Aside0.mk ho4
                  have HB4 := Aside0.mk hb4
                  clear ho4 hb4 hg4 hat4 HO3 HB3 HX3
                  try go_wp2
                  go_roundg m
                  case measure => omega
                  case rel => exact ⟨_, _, _, rfl, rfl, HA, ⟨by have := HK.out; omega⟩, HO4, HB4⟩
                · rw [if_neg d6] at ha; exact absurd ha (by simp)
              · rw [if_neg d2] at ha; exact absurd ha (by simp)
            · rw [if_neg d1, if_pos (by omega)] at ha
              obtain rfl := Option.some.inj ha
              have e1 : decide ((o.length : Int) < a2) = false := decide_eq_false d1
              have hn : (o.take a2.toNat).length = a2.toNat := by rw [List.length_take]; omega
              have HX := Aside0.mk (Kd.C_take (Kd.R_reads' HO.out).2.2 (show a2.toNat ≤ o.length by omega))
              have hco := (Kd.R_reads' HO.out).2.1
              have HW5 := Aside0.mk (below_alloc HBr.out (.cells #[] 5))
              go_wp2_with (first | ((with_reducible refine gate_builtin (b := .append) (xs := #[.tmp 43, .tmp 46]) rfl ?_); at_builtin; refine Kd.R_append_rows (Kd.int .u8) (w0 := w) w.heap.size rfl (.tmp 43) (.tmp 46) 22 5 (.int .u8 0) 1 rfl Try.underlying22 info5 rfl (by decide) (by omega) _ [] (o.take a2.toNat) _ _ _ (fun _ => True) (fun _ => False) rfl rfl ?aO ?aR (fun _ _ h => h) (fun _ h => h.elim) (fun _ _ => trivial) ?aB ?aS (by simp; omega) ?_; (case aO => exact ⟨fun _ _ => trivial, [], own_lit _ w.heap.size 5 .u8 [] (HBr.out.size) (by simp), Reps.none _ _⟩); (case aR => have := Kd.C_alloc HX.out (.cells #[] 5); rw [hn] at this; exact this); (case aB => exact HW5.out); (case aS => exact HW5.out.size); intro v5 w5 ho5 hb5 hg5 hat5; have HO5 := Aside0.mk ho5; have HB5 := Aside0.mk hb5; clear ho5 hb5 hg5 hat5) | fail)
              go_ret
              exact ⟨_, rfl, by simpa using HO5.out, HB5.out⟩

/-! ### spec_l03Copy: function 78 -/
def spec_l03Copy.f (l0 : List Int) : Option (List Int) := (some (([] : List Int) : List Int)).bind fun y235 => (if y235.length + l0.length < 140737488355328 then (some (y235 ++ l0)) else (none))
set_option maxHeartbeats 8000000 in
set_option maxRecDepth 100000 in
theorem spec_l03Copy.calls (A0 : Option Addr) (c0 : Nat) (l0 : List Int) (r : List Int) (w : World) (hr0 : Kd.C (Kd.int .u8) w A0 l0.length l0) (hc0 : l0.length ≤ c0) (h : spec_l03Copy.f l0 = some r) :
    Calls Try.prog 78 #[.slice A0 l0.length c0] w fun e w' => ∃ v0_ : Value, e = .returned (v0_) ∧ Kd.R (Kd.int .u8) 5 w' w.heap.size (fun _ => True) v0_ r ∧ Below w.heap.size w w' := by
  have HR0 := Aside0.mk hr0
  have HC0 := Aside0.mk hc0
  clear hr0 hc0
  have HB := Aside0.mk (Below.refl w.heap.size w)
  have H : ((some (([] : List Int) : List Int)).bind fun y235 => (if y235.length + l0.length < 140737488355328 then (some (y235 ++ l0)) else (none))) = some r := h
  clear h
  obtain ⟨y235, hy235⟩ : ∃ y_ : List Int, y_ = (([] : List Int)) := ⟨_, rfl⟩
  replace H : (if y235.length + l0.length < 140737488355328 then (some (y235 ++ l0)) else (none)) = some r := by first | (rw [hy235]; with_reducible exact H) | (have H2_ := (Option.bind_some _ _).symm.trans H; rw [hy235]; with_reducible exact H2_) | (have H2_ := (Option.bind_some _ _).symm.trans H; with_reducible exact H2_) | with_reducible exact H | (rw [hy235]; exact H) | exact H
  have Ny235 := Aside0.mk hy235
  clear hy235
  by_cases c2 : y235.length + l0.length < 140737488355328
  · rw [if_pos c2] at H
    have LMc2 := Aside0.mk c2
    clear c2
    obtain ⟨y238, hy238⟩ : ∃ y_ : List Int, y_ = (y235 ++ l0) := ⟨_, rfl⟩
    replace H : (some y238) = some r := by first | (rw [hy238]; with_reducible exact H) | (have H2_ := (Option.bind_some _ _).symm.trans H; rw [hy238]; with_reducible exact H2_) | (have H2_ := (Option.bind_some _ _).symm.trans H; with_reducible exact H2_) | with_reducible exact H | (rw [hy238]; exact H) | exact H
    have Ny238 := Aside0.mk hy238
    clear hy238
    obtain rfl := Option.some.inj H
    go_enter Try.func78, Try.ntmps78
    go_wp2_with (first | ((with_reducible refine gate_dst (N := 3) rfl ?_); refine Kd.R_lit (Kd.int .u8) _ 5 ?hg (N := 3) ?hd (xs := ([] : List Int)) (inner := []) (ok := fun _ => True) (okp := fun _ => True) ?hr ?hp (fun _ hk => hk) trivial (Below.refl _ _) (Nat.le_refl _) (by simp) ?_; (case hd => rfl); (case hg => rfl); (case hr => first | (go_simp; done) | (go_simp; rfl)); (case hp => exact (Reps.none _ _)); intro v236 w3 ho4 hb hg_ hnew_; clear hg_ hnew_; (first | rw [← Ny235.out] at ho4 | (simp only [Int.reduceToNat] at ho4; rw [← Ny235.out] at ho4)); have n0_ := Aside0.mk (Kd.R_lower ho4 (below_size (by repeat (first | (with_reducible first | exact HB.out | apply below_alloc | apply pw_below_drewN | apply below_drew1) | exact HB.out)))); have n1_ := Aside0.mk (below_step (by repeat (first | (with_reducible first | exact HB.out | apply below_alloc | apply pw_below_drewN | apply below_drew1) | exact HB.out)) hb); clear HB; have HO237 := n0_; have HB := n1_; clear n0_ n1_; clear hb ho4) | ((with_reducible refine gate_builtin (b := .append) (xs := #[.tmp 3, .tmp 4]) rfl ?_); at_builtin; refine Kd.R_append_rows (Kd.int .u8) (w0 := w) w.heap.size rfl (.tmp 3) (.tmp 4) 22 5 (.int .u8 0) 1 rfl Try.underlying22 info5 rfl (by decide) (by omega) v236 y235 l0 _ _ _ (fun _ => True) (fun _ => False) rfl rfl ?aO ?aR (fun _ _ h => h) (fun _ h => h.elim) ?aF ?aB ?aS ?aL ?_; (case aR => repeat (first | exact (Kd.C_below HR0.out HB.out) | (with_reducible refine Kd.C_alloc ?_ _) | (with_reducible refine Kd.C_drewN ?_ _) | (with_reducible refine Kd.C_drew ?_))); (case aB => exact (by repeat (first | (with_reducible first | exact HB.out | apply below_alloc | apply pw_below_drewN | apply below_drew1) | exact HB.out))); (case aF => exact (fun _ _ => trivial)); (case aO => exact (by (with_reducible repeat (first | apply Kd.R_alloc | apply Kd.R_drewN | apply Kd.R_drew)); exact HO237.out)); (case aS => exact (below_size (by repeat (first | (with_reducible first | exact HB.out | apply below_alloc | apply pw_below_drewN | apply below_drew1) | exact HB.out)))); (case aL => have := LMc2.out; omega); intro v239 w5 ho hb hg hat; rw [← Ny238.out] at ho; have n0_ := Aside0.mk (hb); have n1_ := Aside0.mk (ho); clear HB; clear HO237; have HB := n0_; have HO240 := n1_; clear n0_ n1_; clear ho hb hg hat))
    go_ret
    exact ⟨_, by first | rfl | (simp [errW_none, errW_some] <;> rfl) | (simp [*, errW_none, errW_some] <;> rfl), by (with_reducible repeat (first | apply Kd.R_alloc | apply Kd.R_drewN | apply Kd.R_drew)); exact HO240.out, by repeat (first | (with_reducible first | exact HB.out | apply below_alloc | apply pw_below_drewN | apply below_drew1) | exact HB.out)⟩
  · rw [if_neg c2] at H
    exact absurd H (by simp)

/-! ### spec_KeysOf: function 68 -/
def spec_KeysOf.f (k : Nat) (l0 : List Int) : Option (List Int × List Int × List Int × List Int) := if (l0.length : Int) = 16 then ((spec_l03Copy.f l0).bind fun t242 => ((spec_Derive.f k l0 (⟨#[107, 101, 121]⟩ : ByteArray) 16).bind fun t245 => ((spec_Derive.f k l0 (⟨#[105, 118]⟩ : ByteArray) 8).bind fun t248 => ((spec_Derive.f k l0 (⟨#[109, 97, 115, 107]⟩ : ByteArray) 16).bind fun t251 => (some (t242, t245, t248, t251)))))) else (some (([] : List Int), ([] : List Int), ([] : List Int), ([] : List Int)))
theorem spec_KeysOf.mono : ∀ a0 k, LeO (spec_KeysOf.f k a0) (spec_KeysOf.f (k + 1) a0) := by
  intro a0 k
  unfold spec_KeysOf.f
  repeat' first
      | (with_reducible exact spec_Derive.mono _ _ _ _)
      | (with_reducible exact LeO.refl _)
      | (with_reducible exact LeO.none _)
      | (with_reducible refine LeO.ite ?_ ?_)
      | (with_reducible refine LeO.bind ?_ (fun _ => ?_))
      | exact spec_Derive.mono _ _ _ _
      | exact LeO.none _
      | refine LeO.ite ?_ ?_
      | refine LeO.bind ?_ (fun _ => ?_)
set_option maxHeartbeats 8000000 in
set_option maxRecDepth 100000 in
theorem spec_KeysOf.calls (k : Nat) (A0 : Option Addr) (c0 : Nat) (l0 : List Int) (r1 : List Int) (r2 : List Int) (r3 : List Int) (r4 : List Int) (w : World) (hr0 : Kd.C (Kd.int .u8) w A0 l0.length l0) (hc0 : l0.length ≤ c0) (h : spec_KeysOf.f k l0 = some (r1, r2, r3, r4)) :
    Calls Try.prog 68 #[.slice A0 l0.length c0] w fun e w' => ∃ v0_ v1_ v2_ v3_ : Value, e = .returned (.agg #[v0_, v1_, v2_, v3_]) ∧ Kd.R (Kd.int .u8) 5 w' w.heap.size (fun k_ => some k_ ≠ (v1_ : Value).ownBlock ∧ some k_ ≠ (v2_ : Value).ownBlock ∧ some k_ ≠ (v3_ : Value).ownBlock) v0_ r1 ∧ Kd.R (Kd.int .u8) 5 w' w.heap.size (fun k_ => some k_ ≠ (v0_ : Value).ownBlock ∧ some k_ ≠ (v2_ : Value).ownBlock ∧ some k_ ≠ (v3_ : Value).ownBlock) v1_ r2 ∧ Kd.R (Kd.int .u8) 5 w' w.heap.size (fun k_ => some k_ ≠ (v0_ : Value).ownBlock ∧ some k_ ≠ (v1_ : Value).ownBlock ∧ some k_ ≠ (v3_ : Value).ownBlock) v2_ r3 ∧ Kd.R (Kd.int .u8) 5 w' w.heap.size (fun k_ => some k_ ≠ (v0_ : Value).ownBlock ∧ some k_ ≠ (v1_ : Value).ownBlock ∧ some k_ ≠ (v2_ : Value).ownBlock) v3_ r4 ∧ Below w.heap.size w w' := by
  have hu24 := Try.underlying24
  have HR0 := Aside0.mk hr0
  have HC0 := Aside0.mk hc0
  clear hr0 hc0
  have HB := Aside0.mk (Below.refl w.heap.size w)
  have H : (if (l0.length : Int) = 16 then ((spec_l03Copy.f l0).bind fun t242 => ((spec_Derive.f k l0 (⟨#[107, 101, 121]⟩ : ByteArray) 16).bind fun t245 => ((spec_Derive.f k l0 (⟨#[105, 118]⟩ : ByteArray) 8).bind fun t248 => ((spec_Derive.f k l0 (⟨#[109, 97, 115, 107]⟩ : ByteArray) 16).bind fun t251 => (some (t242, t245, t248, t251)))))) else (some (([] : List Int), ([] : List Int), ([] : List Int), ([] : List Int)))) = some (r1, r2, r3, r4) := h
  clear h
  by_cases c2 : (l0.length : Int) = 16
  · rw [if_pos c2] at H
    have c2b0 : ((l0.length : Int) == 16) = true := beq_iff_eq.mpr c2
    have c2b1 : ((l0.length : Int) != 16) = false := bne_eq_false_iff_eq.mpr c2
    clear c2
    replace H := Option.bind_eq_some_iff.mp H
    obtain ⟨t242, A30, H⟩ := H
    replace H : ((spec_Derive.f k l0 (⟨#[107, 101, 121]⟩ : ByteArray) 16).bind fun t245 => ((spec_Derive.f k l0 (⟨#[105, 118]⟩ : ByteArray) 8).bind fun t248 => ((spec_Derive.f k l0 (⟨#[109, 97, 115, 107]⟩ : ByteArray) 16).bind fun t251 => (some (t242, t245, t248, t251))))) = some (r1, r2, r3, r4) := H
    have A3 := Aside0.mk A30
    clear A30
    replace H := Option.bind_eq_some_iff.mp H
    obtain ⟨t245, A40, H⟩ := H
    replace H : ((spec_Derive.f k l0 (⟨#[105, 118]⟩ : ByteArray) 8).bind fun t248 => ((spec_Derive.f k l0 (⟨#[109, 97, 115, 107]⟩ : ByteArray) 16).bind fun t251 => (some (t242, t245, t248, t251)))) = some (r1, r2, r3, r4) := H
    have A4 := Aside0.mk A40
    clear A40
    replace H := Option.bind_eq_some_iff.mp H
    obtain ⟨t248, A50, H⟩ := H
    replace H : ((spec_Derive.f k l0 (⟨#[109, 97, 115, 107]⟩ : ByteArray) 16).bind fun t251 => (some (t242, t245, t248, t251))) = some (r1, r2, r3, r4) := H
    have A5 := Aside0.mk A50
    clear A50
    replace H := Option.bind_eq_some_iff.mp H
    obtain ⟨t251, A60, H⟩ := H
    replace H : (some (t242, t245, t248, t251)) = some (r1, r2, r3, r4) := H
    have A6 := Aside0.mk A60
    clear A60
    simp only [Option.some.injEq, Prod.mk.injEq] at H
    obtain ⟨rfl, rfl, rfl, rfl⟩ := H
    go_enter Try.func68, Try.ntmps68
    go_wp2_with (first | ((with_reducible refine gate_dst (N := 2) rfl ?_); refine box_event ?hg (N := 2) ?hd (cs := #[.slice none 0 0, .slice none 0 0, .slice none 0 0, .slice none 0 0]) (t := 24) ?hr ?_; (case hd => rfl); (case hg => rfl); (case hr => first | (go_simp; done) | (go_simp; rfl)); intro gb241 hg w7 hbox hb; have n0_ := Aside0.mk (below_step (by repeat (first | (with_reducible first | exact HB.out | apply below_alloc | apply pw_below_drewN | apply below_drew1) | exact HB.out)) hb); have n1_ := Aside0.mk (hbox); have n2_ := Aside0.mk ((by rw [hg]; exact (below_size (by repeat (first | (with_reducible first | exact HB.out | apply below_alloc | apply pw_below_drewN | apply below_drew1) | exact HB.out))) : w.heap.size ≤ gb241)); have n3_ := Aside0.mk ((by rw [hg]; exact (below_size (by repeat (first | (with_reducible first | exact HB.out | apply below_alloc | apply pw_below_drewN | apply below_drew1) | exact HB.out))) : w.heap.size ≤ gb241)); clear HB; have HB := n0_; have BK241 := n1_; have GW241 := n2_; have GE241 := n3_; clear n0_ n1_ n2_ n3_; clear hb hbox hg) | ((with_reducible refine gate_callee (f := 78) rfl ?_); refine goesL_ (some 8) rfl rfl Try.func78 (by kernel_rfl) rfl #[.slice A0 l0.length c0] rfl (by (try simp only [List.map_toArray, List.map_cons, List.map_nil]); first | done | rfl | (simp only [List.length_drop, List.length_take]; rfl)) ?_; (with_reducible refine (spec_l03Copy.calls _ _ l0 t242 _ ?side1 ?side2 A3.out).mono ?_); (case side1 => repeat (first | exact (Kd.C_below HR0.out HB.out) | (with_reducible refine Kd.C_alloc ?_ _) | (with_reducible refine Kd.C_drewN ?_ _) | (with_reducible refine Kd.C_drew ?_))); (case side2 => exact HC0.out); rintro e w8 ⟨v243, rfl, ho0, hb⟩; refine ⟨_, rfl, ?_⟩; have n0_ := Aside0.mk (Kd.R_lower ho0 (below_size (by repeat (first | (with_reducible first | exact HB.out | apply below_alloc | apply pw_below_drewN | apply below_drew1 | refine below_set ?_ GE241.out) | exact HB.out)))); have n1_ := Aside0.mk (blk_below (g := gb241) (o := .cells #[.slice none 0 0, .slice none 0 0, .slice none 0 0, .slice none 0 0] 24 (0, 0)) (by (with_reducible repeat (first | refine blk_drewN ?_ _ | refine blk_drew ?_ | refine blk_alloc ?_ _)); exact BK241.out) hb); have n2_ := Aside0.mk (below_step (by repeat (first | (with_reducible first | exact HB.out | apply below_alloc | apply pw_below_drewN | apply below_drew1 | refine below_set ?_ GE241.out) | exact HB.out)) hb); clear BK241; clear HB; have HO244 := n0_; have BK241 := n1_; have HB := n2_; clear n0_ n1_ n2_; (try clear hb); (try clear hb2); (try clear hk); (try clear hi); (try clear ho0)) | ((with_reducible refine gate_callee (f := 69) rfl ?_); refine goesL_ (some 10) rfl rfl Try.func69 (by kernel_rfl) rfl #[.slice A0 l0.length c0, .string (⟨#[107, 101, 121]⟩ : ByteArray), .int .i64 16] rfl (by (try simp only [List.map_toArray, List.map_cons, List.map_nil]); first | done | rfl | (simp only [List.length_drop, List.length_take]; rfl)) ?_; (with_reducible refine (spec_Derive.calls k _ _ l0 (⟨#[107, 101, 121]⟩ : ByteArray) 16 t245 _ ?side1 ?side2 A4.out).mono ?_); (case side1 => repeat (first | exact (Kd.C_below HR0.out HB.out) | (with_reducible refine Kd.C_alloc ?_ _) | (with_reducible refine Kd.C_drewN ?_ _) | (with_reducible refine Kd.C_drew ?_))); (case side2 => exact HC0.out); rintro e w9 ⟨v246, rfl, ho0, hb⟩; refine ⟨_, rfl, ?_⟩; have n0_ := Aside0.mk (Kd.R_elder' (by (with_reducible repeat (first | apply Kd.R_alloc | apply Kd.R_drewN | apply Kd.R_drew)); exact HO244.out) (Kd.R_base ho0) hb); have n1_ := Aside0.mk (Kd.R_lower (Kd.R_new' ho0 (Kd.R_lt (by (with_reducible repeat (first | apply Kd.R_alloc | apply Kd.R_drewN | apply Kd.R_drew)); exact HO244.out))) (below_size (by repeat (first | (with_reducible first | exact HB.out | apply below_alloc | apply pw_below_drewN | apply below_drew1 | refine below_set ?_ GE241.out) | exact HB.out)))); have n2_ := Aside0.mk (blk_below (g := gb241) (o := .cells #[.slice none 0 0, .slice none 0 0, .slice none 0 0, .slice none 0 0] 24 (0, 0)) (by (with_reducible repeat (first | refine blk_drewN ?_ _ | refine blk_drew ?_ | refine blk_alloc ?_ _)); exact BK241.out) hb); have n3_ := Aside0.mk (below_step (by repeat (first | (with_reducible first | exact HB.out | apply below_alloc | apply pw_below_drewN | apply below_drew1 | refine below_set ?_ GE241.out) | exact HB.out)) hb); clear HO244; clear BK241; clear HB; have HO244 := n0_; have HO247 := n1_; have BK241 := n2_; have HB := n3_; clear n0_ n1_ n2_ n3_; (try clear hb); (try clear hb2); (try clear hk); (try clear hi); (try clear ho0)) | ((with_reducible refine gate_callee (f := 69) rfl ?_); refine goesL_ (some 12) rfl rfl Try.func69 (by kernel_rfl) rfl #[.slice A0 l0.length c0, .string (⟨#[105, 118]⟩ : ByteArray), .int .i64 8] rfl (by (try simp only [List.map_toArray, List.map_cons, List.map_nil]); first | done | rfl | (simp only [List.length_drop, List.length_take]; rfl)) ?_; (with_reducible refine (spec_Derive.calls k _ _ l0 (⟨#[105, 118]⟩ : ByteArray) 8 t248 _ ?side1 ?side2 A5.out).mono ?_); (case side1 => repeat (first | exact (Kd.C_below HR0.out HB.out) | (with_reducible refine Kd.C_alloc ?_ _) | (with_reducible refine Kd.C_drewN ?_ _) | (with_reducible refine Kd.C_drew ?_))); (case side2 => exact HC0.out); rintro e w10 ⟨v249, rfl, ho0, hb⟩; refine ⟨_, rfl, ?_⟩; have n0_ := Aside0.mk (Kd.R_elder' (by (with_reducible repeat (first | apply Kd.R_alloc | apply Kd.R_drewN | apply Kd.R_drew)); exact HO244.out) (Kd.R_base ho0) hb); have n1_ := Aside0.mk (Kd.R_elder' (by (with_reducible repeat (first | apply Kd.R_alloc | apply Kd.R_drewN | apply Kd.R_drew)); exact HO247.out) (Kd.R_base ho0) hb); have n2_ := Aside0.mk (Kd.R_lower (Kd.R_new' (Kd.R_new' ho0 (Kd.R_lt (by (with_reducible repeat (first | apply Kd.R_alloc | apply Kd.R_drewN | apply Kd.R_drew)); exact HO244.out))) (Kd.R_lt (by (with_reducible repeat (first | apply Kd.R_alloc | apply Kd.R_drewN | apply Kd.R_drew)); exact HO247.out))) (below_size (by repeat (first | (with_reducible first | exact HB.out | apply below_alloc | apply pw_below_drewN | apply below_drew1 | refine below_set ?_ GE241.out) | exact HB.out)))); have n3_ := Aside0.mk (blk_below (g := gb241) (o := .cells #[.slice none 0 0, .slice none 0 0, .slice none 0 0, .slice none 0 0] 24 (0, 0)) (by (with_reducible repeat (first | refine blk_drewN ?_ _ | refine blk_drew ?_ | refine blk_alloc ?_ _)); exact BK241.out) hb); have n4_ := Aside0.mk (below_step (by repeat (first | (with_reducible first | exact HB.out | apply below_alloc | apply pw_below_drewN | apply below_drew1 | refine below_set ?_ GE241.out) | exact HB.out)) hb); clear HO244; clear HO247; clear BK241; clear HB; have HO244 := n0_; have HO247 := n1_; have HO250 := n2_; have BK241 := n3_; have HB := n4_; clear n0_ n1_ n2_ n3_ n4_; (try clear hb); (try clear hb2); (try clear hk); (try clear hi); (try clear ho0)) | ((with_reducible refine gate_callee (f := 69) rfl ?_); refine goesL_ (some 14) rfl rfl Try.func69 (by kernel_rfl) rfl #[.slice A0 l0.length c0, .string (⟨#[109, 97, 115, 107]⟩ : ByteArray), .int .i64 16] rfl (by (try simp only [List.map_toArray, List.map_cons, List.map_nil]); first | done | rfl | (simp only [List.length_drop, List.length_take]; rfl)) ?_; (with_reducible refine (spec_Derive.calls k _ _ l0 (⟨#[109, 97, 115, 107]⟩ : ByteArray) 16 t251 _ ?side1 ?side2 A6.out).mono ?_); (case side1 => repeat (first | exact (Kd.C_below HR0.out HB.out) | (with_reducible refine Kd.C_alloc ?_ _) | (with_reducible refine Kd.C_drewN ?_ _) | (with_reducible refine Kd.C_drew ?_))); (case side2 => exact HC0.out); rintro e w11 ⟨v252, rfl, ho0, hb⟩; refine ⟨_, rfl, ?_⟩; have n0_ := Aside0.mk (Kd.R_elder' (by (with_reducible repeat (first | apply Kd.R_alloc | apply Kd.R_drewN | apply Kd.R_drew)); exact HO244.out) (Kd.R_base ho0) hb); have n1_ := Aside0.mk (Kd.R_elder' (by (with_reducible repeat (first | apply Kd.R_alloc | apply Kd.R_drewN | apply Kd.R_drew)); exact HO247.out) (Kd.R_base ho0) hb); have n2_ := Aside0.mk (Kd.R_elder' (by (with_reducible repeat (first | apply Kd.R_alloc | apply Kd.R_drewN | apply Kd.R_drew)); exact HO250.out) (Kd.R_base ho0) hb); have n3_ := Aside0.mk (Kd.R_lower (Kd.R_new' (Kd.R_new' (Kd.R_new' ho0 (Kd.R_lt (by (with_reducible repeat (first | apply Kd.R_alloc | apply Kd.R_drewN | apply Kd.R_drew)); exact HO244.out))) (Kd.R_lt (by (with_reducible repeat (first | apply Kd.R_alloc | apply Kd.R_drewN | apply Kd.R_drew)); exact HO247.out))) (Kd.R_lt (by (with_reducible repeat (first | apply Kd.R_alloc | apply Kd.R_drewN | apply Kd.R_drew)); exact HO250.out))) (below_size (by repeat (first | (with_reducible first | exact HB.out | apply below_alloc | apply pw_below_drewN | apply below_drew1 | refine below_set ?_ GE241.out) | exact HB.out)))); have n4_ := Aside0.mk (blk_below (g := gb241) (o := .cells #[.slice none 0 0, .slice none 0 0, .slice none 0 0, .slice none 0 0] 24 (0, 0)) (by (with_reducible repeat (first | refine blk_drewN ?_ _ | refine blk_drew ?_ | refine blk_alloc ?_ _)); exact BK241.out) hb); have n5_ := Aside0.mk (below_step (by repeat (first | (with_reducible first | exact HB.out | apply below_alloc | apply pw_below_drewN | apply below_drew1 | refine below_set ?_ GE241.out) | exact HB.out)) hb); clear HO244; clear HO247; clear HO250; clear BK241; clear HB; have HO244 := n0_; have HO247 := n1_; have HO250 := n2_; have HO253 := n3_; have BK241 := n4_; have HB := n5_; clear n0_ n1_ n2_ n3_ n4_ n5_; (try clear hb); (try clear hb2); (try clear hk); (try clear hi); (try clear ho0); obtain ⟨Ao12, co12, eo12⟩ := Kd.R_slice HO253.out; subst eo12; obtain ⟨Ao13, co13, eo13⟩ := Kd.R_slice HO250.out; subst eo13; obtain ⟨Ao14, co14, eo14⟩ := Kd.R_slice HO247.out; subst eo14; obtain ⟨Ao15, co15, eo15⟩ := Kd.R_slice HO244.out; subst eo15; have hcz16_0 : w11.cell? ⟨gb241, 0, none⟩ = some (.slice none 0 0) := (blk_cell BK241.out 0).trans rfl; have hcz16_1 : w11.cell? ⟨gb241, 1, none⟩ = some (.slice none 0 0) := (blk_cell BK241.out 1).trans rfl; have hcz16_2 : w11.cell? ⟨gb241, 2, none⟩ = some (.slice none 0 0) := (blk_cell BK241.out 2).trans rfl; have hcz16_3 : w11.cell? ⟨gb241, 3, none⟩ = some (.slice none 0 0) := (blk_cell BK241.out 3).trans rfl; have hfz16_0 := blk_frozen BK241.out 0; have hfz16_1 := blk_frozen BK241.out 1; have hfz16_2 := blk_frozen BK241.out 2; have hfz16_3 := blk_frozen BK241.out 3))
    refine bodyPost_ret (results_cell_row rfl _ _ gb241 24 #[.slice Ao15 t242.length co15, .slice Ao14 t245.length co14, .slice Ao13 t248.length co13, .slice Ao12 t251.length co12] (0, 0) _ rfl (by (with_reducible repeat (first | refine blk_drewN ?_ _ | refine blk_drew ?_ | refine blk_alloc ?_ _)); refine blk_put (cs := #[.slice Ao15 t242.length co15, .slice Ao14 t245.length co14, .slice Ao13 t248.length co13, .slice none 0 0]) ?_ 3 _ rfl; (with_reducible repeat (first | refine blk_drewN ?_ _ | refine blk_drew ?_ | refine blk_alloc ?_ _)); refine blk_put (cs := #[.slice Ao15 t242.length co15, .slice Ao14 t245.length co14, .slice none 0 0, .slice none 0 0]) ?_ 2 _ rfl; (with_reducible repeat (first | refine blk_drewN ?_ _ | refine blk_drew ?_ | refine blk_alloc ?_ _)); refine blk_put (cs := #[.slice Ao15 t242.length co15, .slice none 0 0, .slice none 0 0, .slice none 0 0]) ?_ 1 _ rfl; (with_reducible repeat (first | refine blk_drewN ?_ _ | refine blk_drew ?_ | refine blk_alloc ?_ _)); refine blk_put (cs := #[.slice none 0 0, .slice none 0 0, .slice none 0 0, .slice none 0 0]) ?_ 0 _ rfl; (with_reducible repeat (first | refine blk_drewN ?_ _ | refine blk_drew ?_ | refine blk_alloc ?_ _)); exact BK241.out) Try.underlying24 rfl (by kernel_rfl)) rfl ?_
    exact ⟨_, _, _, _, by first | rfl | (simp [errW_none, errW_some] <;> rfl) | (simp [*, errW_none, errW_some] <;> rfl), by (with_reducible repeat (first | apply Kd.R_alloc | apply Kd.R_drewN | apply Kd.R_drew)); exact Kd.R_mono (Kd.R_far (p := ⟨gb241, 3, none⟩) (Kd.R_far (p := ⟨gb241, 2, none⟩) (Kd.R_far (p := ⟨gb241, 1, none⟩) (Kd.R_far (p := ⟨gb241, 0, none⟩) (Kd.R_types HO244.out BK241.out (by decide)) (fun _ hk => hk.2) (.slice Ao15 t242.length co15)) (fun _ hk => hk.2) (.slice Ao14 t245.length co14)) (fun _ hk => hk.2) (.slice Ao13 t248.length co13)) (fun _ hk => hk.2) (.slice Ao12 t251.length co12)) (fun _ hk => ⟨hk.1.1.1.2, ⟨hk.1.1.2, hk.1.2⟩⟩), by (with_reducible repeat (first | apply Kd.R_alloc | apply Kd.R_drewN | apply Kd.R_drew)); exact Kd.R_mono (Kd.R_far (p := ⟨gb241, 3, none⟩) (Kd.R_far (p := ⟨gb241, 2, none⟩) (Kd.R_far (p := ⟨gb241, 1, none⟩) (Kd.R_far (p := ⟨gb241, 0, none⟩) (Kd.R_types HO247.out BK241.out (by decide)) (fun _ hk => hk.2) (.slice Ao15 t242.length co15)) (fun _ hk => hk.2) (.slice Ao14 t245.length co14)) (fun _ hk => hk.2) (.slice Ao13 t248.length co13)) (fun _ hk => hk.2) (.slice Ao12 t251.length co12)) (fun _ hk => ⟨hk.1.1.1.2, ⟨hk.1.1.2, hk.1.2⟩⟩), by (with_reducible repeat (first | apply Kd.R_alloc | apply Kd.R_drewN | apply Kd.R_drew)); exact Kd.R_mono (Kd.R_far (p := ⟨gb241, 3, none⟩) (Kd.R_far (p := ⟨gb241, 2, none⟩) (Kd.R_far (p := ⟨gb241, 1, none⟩) (Kd.R_far (p := ⟨gb241, 0, none⟩) (Kd.R_types HO250.out BK241.out (by decide)) (fun _ hk => hk.2) (.slice Ao15 t242.length co15)) (fun _ hk => hk.2) (.slice Ao14 t245.length co14)) (fun _ hk => hk.2) (.slice Ao13 t248.length co13)) (fun _ hk => hk.2) (.slice Ao12 t251.length co12)) (fun _ hk => ⟨hk.1.1.1.2, ⟨hk.1.1.2, hk.1.2⟩⟩), by (with_reducible repeat (first | apply Kd.R_alloc | apply Kd.R_drewN | apply Kd.R_drew)); exact Kd.R_mono (Kd.R_far (p := ⟨gb241, 3, none⟩) (Kd.R_far (p := ⟨gb241, 2, none⟩) (Kd.R_far (p := ⟨gb241, 1, none⟩) (Kd.R_far (p := ⟨gb241, 0, none⟩) (Kd.R_types HO253.out BK241.out (by decide)) (fun _ hk => hk.2) (.slice Ao15 t242.length co15)) (fun _ hk => hk.2) (.slice Ao14 t245.length co14)) (fun _ hk => hk.2) (.slice Ao13 t248.length co13)) (fun _ hk => hk.2) (.slice Ao12 t251.length co12)) (fun _ hk => ⟨hk.1.1.1.2, ⟨hk.1.1.2, hk.1.2⟩⟩), by repeat (first | (with_reducible first | exact HB.out | apply below_alloc | apply pw_below_drewN | apply below_drew1 | refine below_set ?_ GE241.out) | exact HB.out)⟩
  · rw [if_neg c2] at H
    have c2b0 : ((l0.length : Int) == 16) = false := beq_eq_false_iff_ne.mpr c2
    have c2b1 : ((l0.length : Int) != 16) = true := bne_iff_ne.mpr c2
    simp only [Option.some.injEq, Prod.mk.injEq] at H
    obtain ⟨rfl, rfl, rfl, rfl⟩ := H
    go_enter Try.func68, Try.ntmps68
    go_wp2_with (first | ((with_reducible refine gate_dst (N := 2) rfl ?_); refine box_event ?hg (N := 2) ?hd (cs := #[.slice none 0 0, .slice none 0 0, .slice none 0 0, .slice none 0 0]) (t := 24) ?hr ?_; (case hd => rfl); (case hg => rfl); (case hr => first | (go_simp; done) | (go_simp; rfl)); intro gb241 hg w17 hbox hb; have n0_ := Aside0.mk (below_step (by repeat (first | (with_reducible first | exact HB.out | apply below_alloc | apply pw_below_drewN | apply below_drew1) | exact HB.out)) hb); have n1_ := Aside0.mk (hbox); have n2_ := Aside0.mk ((by rw [hg]; exact (below_size (by repeat (first | (with_reducible first | exact HB.out | apply below_alloc | apply pw_below_drewN | apply below_drew1) | exact HB.out))) : w.heap.size ≤ gb241)); have n3_ := Aside0.mk ((by rw [hg]; exact (below_size (by repeat (first | (with_reducible first | exact HB.out | apply below_alloc | apply pw_below_drewN | apply below_drew1) | exact HB.out))) : w.heap.size ≤ gb241)); clear HB; have HB := n0_; have BK241 := n1_; have GW241 := n2_; have GE241 := n3_; clear n0_ n1_ n2_ n3_; clear hb hbox hg; have hcz18_0 : w17.cell? ⟨gb241, 0, none⟩ = some (.slice none 0 0) := (blk_cell BK241.out 0).trans rfl; have hcz18_1 : w17.cell? ⟨gb241, 1, none⟩ = some (.slice none 0 0) := (blk_cell BK241.out 1).trans rfl; have hcz18_2 : w17.cell? ⟨gb241, 2, none⟩ = some (.slice none 0 0) := (blk_cell BK241.out 2).trans rfl; have hcz18_3 : w17.cell? ⟨gb241, 3, none⟩ = some (.slice none 0 0) := (blk_cell BK241.out 3).trans rfl; have hfz18_0 := blk_frozen BK241.out 0; have hfz18_1 := blk_frozen BK241.out 1; have hfz18_2 := blk_frozen BK241.out 2; have hfz18_3 := blk_frozen BK241.out 3))
    refine bodyPost_ret (results_cell_row rfl _ _ gb241 24 #[.slice none 0 0, .slice none 0 0, .slice none 0 0, .slice none 0 0] (0, 0) _ rfl (by (with_reducible repeat (first | refine blk_drewN ?_ _ | refine blk_drew ?_ | refine blk_alloc ?_ _)); refine blk_put (cs := #[.slice none 0 0, .slice none 0 0, .slice none 0 0, .slice none 0 0]) ?_ 3 _ rfl; (with_reducible repeat (first | refine blk_drewN ?_ _ | refine blk_drew ?_ | refine blk_alloc ?_ _)); refine blk_put (cs := #[.slice none 0 0, .slice none 0 0, .slice none 0 0, .slice none 0 0]) ?_ 2 _ rfl; (with_reducible repeat (first | refine blk_drewN ?_ _ | refine blk_drew ?_ | refine blk_alloc ?_ _)); refine blk_put (cs := #[.slice none 0 0, .slice none 0 0, .slice none 0 0, .slice none 0 0]) ?_ 1 _ rfl; (with_reducible repeat (first | refine blk_drewN ?_ _ | refine blk_drew ?_ | refine blk_alloc ?_ _)); refine blk_put (cs := #[.slice none 0 0, .slice none 0 0, .slice none 0 0, .slice none 0 0]) ?_ 0 _ rfl; (with_reducible repeat (first | refine blk_drewN ?_ _ | refine blk_drew ?_ | refine blk_alloc ?_ _)); exact BK241.out) Try.underlying24 rfl (by kernel_rfl)) rfl ?_
    exact ⟨_, _, _, _, by first | rfl | (simp [errW_none, errW_some] <;> rfl) | (simp [*, errW_none, errW_some] <;> rfl), by first | exact Kd.R_nil _ _ _ _ _ | exact Kd.N_nil _ _ _ _ _ | exact Kd.V_nil _ _ _ _ _ | exact Kd.Q_nil _ _ _ _ _ | exact Kd.S_nil _ _ _ _ _, by first | exact Kd.R_nil _ _ _ _ _ | exact Kd.N_nil _ _ _ _ _ | exact Kd.V_nil _ _ _ _ _ | exact Kd.Q_nil _ _ _ _ _ | exact Kd.S_nil _ _ _ _ _, by first | exact Kd.R_nil _ _ _ _ _ | exact Kd.N_nil _ _ _ _ _ | exact Kd.V_nil _ _ _ _ _ | exact Kd.Q_nil _ _ _ _ _ | exact Kd.S_nil _ _ _ _ _, by first | exact Kd.R_nil _ _ _ _ _ | exact Kd.N_nil _ _ _ _ _ | exact Kd.V_nil _ _ _ _ _ | exact Kd.Q_nil _ _ _ _ _ | exact Kd.S_nil _ _ _ _ _, by repeat (first | (with_reducible first | exact HB.out | apply below_alloc | apply pw_below_drewN | apply below_drew1 | refine below_set ?_ GE241.out) | exact HB.out)⟩

/-! ### spec_l09Time: function 138 -/
def spec_l09Time.f (a0 : Int) : Option (Bool) := if a0 ≥ 0 then (some (decide (a0 ≤ 1000000000000))) else (some false)
set_option maxHeartbeats 8000000 in
set_option maxRecDepth 100000 in
theorem spec_l09Time.calls (a0 : Int) (r : Bool) (w : World) (h : spec_l09Time.f a0 = some r) :
    Calls Try.prog 138 #[.int .i64 a0] w fun e w' => e = .returned (.bool r) ∧ Drawn0 w w' := by
  have H : (if a0 ≥ 0 then (some (decide (a0 ≤ 1000000000000))) else (some false)) = some r := h
  clear h
  by_cases c2 : a0 ≥ 0
  · rw [if_pos c2] at H
    have c2b0 : decide (0 ≤ a0) = true := decide_eq_true c2
    clear c2
    obtain rfl := Option.some.inj H
    go_enter Try.func138, Try.ntmps138
    go_wp2
    go_ret
    exact ⟨by first | rfl | (simp; done) | (simp [*]; done), by repeat (first | exact Drawn0.refl _ | apply Drawn0.step)⟩
  · rw [if_neg c2] at H
    have c2b0 : decide (0 ≤ a0) = false := decide_eq_false c2
    clear c2
    obtain rfl := Option.some.inj H
    go_enter Try.func138, Try.ntmps138
    go_wp2
    go_ret
    exact ⟨by first | rfl | (simp; done) | (simp [*]; done), by repeat (first | exact Drawn0.refl _ | apply Drawn0.step)⟩

/-! ### spec_l11TokenArgs: function 75 -/
def spec_l11TokenArgs.f (l0 : List Int) (l1 : List Int) (a2 : Int) : Option (Bool) := if (l0.length : Int) = 16 then (if (l1.length : Int) ≤ 24 then ((spec_l09Time.f a2).bind fun t254 => (some t254)) else (some false)) else (some false)
set_option maxHeartbeats 8000000 in
set_option maxRecDepth 100000 in
theorem spec_l11TokenArgs.calls (A0 : Option Addr) (c0 : Nat) (l0 : List Int) (A1 : Option Addr) (c1 : Nat) (l1 : List Int) (a2 : Int) (r : Bool) (w : World) (hr0 : Kd.C (Kd.int .u8) w A0 l0.length l0) (hc0 : l0.length ≤ c0) (hr1 : Kd.C (Kd.int .u8) w A1 l1.length l1) (hc1 : l1.length ≤ c1) (h : spec_l11TokenArgs.f l0 l1 a2 = some r) :
    Calls Try.prog 75 #[.slice A0 l0.length c0, .slice A1 l1.length c1, .int .i64 a2] w fun e w' => e = .returned (.bool r) ∧ Drawn0 w w' := by
  have HR0 := Aside0.mk hr0
  have HC0 := Aside0.mk hc0
  clear hr0 hc0
  have HR1 := Aside0.mk hr1
  have HC1 := Aside0.mk hc1
  clear hr1 hc1
  have H : (if (l0.length : Int) = 16 then (if (l1.length : Int) ≤ 24 then ((spec_l09Time.f a2).bind fun t254 => (some t254)) else (some false)) else (some false)) = some r := h
  clear h
  by_cases c4 : (l0.length : Int) = 16
  · rw [if_pos c4] at H
    have c4b0 : ((l0.length : Int) == 16) = true := beq_iff_eq.mpr c4
    have c4b1 : ((l0.length : Int) != 16) = false := bne_eq_false_iff_eq.mpr c4
    clear c4
    by_cases c5 : (l1.length : Int) ≤ 24
    · rw [if_pos c5] at H
      have c5b0 : decide ((l1.length : Int) ≤ 24) = true := decide_eq_true c5
      have c5b1 : decide (l1.length ≤ 24) = true := decide_eq_true (by omega)
      clear c5
      replace H := Option.bind_eq_some_iff.mp H
      obtain ⟨t254, A60, H⟩ := H
      replace H : (some t254) = some r := H
      have A6 := Aside0.mk A60
      clear A60
      obtain rfl := Option.some.inj H
      go_enter Try.func75, Try.ntmps75
      go_wp2_with (first | (go_at_call 138; (with_reducible refine (spec_l09Time.calls a2 t254 _ A6.out).mono ?_); rintro e w' ⟨rfl, ⟨nd, rfl⟩⟩))
      go_ret
      exact ⟨by first | rfl | (simp; done) | (simp [*]; done), by repeat (first | exact Drawn0.refl _ | apply Drawn0.step)⟩
    · rw [if_neg c5] at H
      have c5b0 : decide ((l1.length : Int) ≤ 24) = false := decide_eq_false c5
      have c5b1 : decide (l1.length ≤ 24) = false := decide_eq_false (by omega)
      clear c5
      obtain rfl := Option.some.inj H
      go_enter Try.func75, Try.ntmps75
      go_wp2
      go_ret
      exact ⟨by first | rfl | (simp; done) | (simp [*]; done), by repeat (first | exact Drawn0.refl _ | apply Drawn0.step)⟩
  · rw [if_neg c4] at H
    have c4b0 : ((l0.length : Int) == 16) = false := beq_eq_false_iff_ne.mpr c4
    have c4b1 : ((l0.length : Int) != 16) = true := bne_iff_ne.mpr c4
    obtain rfl := Option.some.inj H
    go_enter Try.func75, Try.ntmps75
    go_wp2
    go_ret
    exact ⟨by first | rfl | (simp; done) | (simp [*]; done), by repeat (first | exact Drawn0.refl _ | apply Drawn0.step)⟩

/-! ### spec_l01Value: function 77 -/
def spec_l01Value.l0 : Nat → List Int → Int → Int → Option (Int)
  | 0, _, _, _ => none
  | k + 1, x0, x3, x4 => if x4 < (x0.length : Int) then (if 0 ≤ x4 then (spec_l01Value.l0 k x0 (wrap64 ((wrap64 (x3 * 256)) + (wrap64 (rd x0 x4)))) (wrap64 (x4 + 1))) else (none)) else (some x3)
def spec_l01Value.f (k : Nat) (l0 : List Int) : Option (Int) := spec_l01Value.l0 k l0 0 0
theorem spec_l01Value.mono_l : ∀ k, (∀ y0 y1 y2, LeO (spec_l01Value.l0 k y0 y1 y2) (spec_l01Value.l0 (k + 1) y0 y1 y2))
  | 0 => fun _ _ _ r h => by simp [spec_l01Value.l0] at h
  | k + 1 => by
    have ih0 := spec_l01Value.mono_l k
    · intro y0 y1 y2
      unfold spec_l01Value.l0
      repeat' first
      | (with_reducible exact ih0 _ _ _)
      | (with_reducible exact LeO.refl _)
      | (with_reducible exact LeO.none _)
      | (with_reducible refine LeO.ite ?_ ?_)
      | (with_reducible refine LeO.bind ?_ (fun _ => ?_))
      | exact ih0 _ _ _
      | exact LeO.none _
      | refine LeO.ite ?_ ?_
      | refine LeO.bind ?_ (fun _ => ?_)
theorem spec_l01Value.mono : ∀ a0 k, LeO (spec_l01Value.f k a0) (spec_l01Value.f (k + 1) a0) := by
  intro a0 k
  have ih0 := spec_l01Value.mono_l k
  unfold spec_l01Value.f
  repeat' first
      | (with_reducible exact ih0 _ _ _)
      | (with_reducible exact LeO.refl _)
      | (with_reducible exact LeO.none _)
      | (with_reducible refine LeO.ite ?_ ?_)
      | (with_reducible refine LeO.bind ?_ (fun _ => ?_))
      | exact ih0 _ _ _
      | exact LeO.none _
      | refine LeO.ite ?_ ?_
      | refine LeO.bind ?_ (fun _ => ?_)
set_option maxHeartbeats 8000000 in
set_option maxRecDepth 100000 in
theorem spec_l01Value.calls (k : Nat) (A0 : Option Addr) (c0 : Nat) (l0 : List Int) (r : Int) (w : World) (hr0 : Kd.C (Kd.int .u8) w A0 l0.length l0) (hc0 : l0.length ≤ c0) (h : spec_l01Value.f k l0 = some r) :
    Calls Try.prog 77 #[.slice A0 l0.length c0] w fun e w' => e = .returned (.int .i64 r) ∧ Drawn0 w w' := by
  have HR0 := Aside0.mk hr0
  have HC0 := Aside0.mk hc0
  clear hr0 hc0
  have H : (spec_l01Value.l0 k l0 0 0) = some r := h
  clear h
  have H' := Aside0.mk H
  clear H
  go_enter Try.func77, Try.ntmps77
  go_wp2
  go_loopg [3, 4] k (fun kq v3 v4 w' => ∃ (x3_1 : Int) (x4_1 : Int), v3 = .int .i64 x3_1 ∧ v4 = .int .i64 x4_1 ∧ Aside0 (spec_l01Value.l0 kq l0 x3_1 x4_1 = some r) ∧ Aside0 (kq ≤ k) ∧ Drawn0 w w')
  case atStart => exact ⟨(0), (0), (by first | rfl | (simp; done) | (simp [*]; done)), (by first | rfl | (simp; done) | (simp [*]; done)), H', ⟨Nat.le_refl _⟩, by repeat (first | exact Drawn0.refl _ | apply Drawn0.step)⟩
  case round =>
    clear H'
    obtain ⟨x3_1, x4_1, rfl, rfl, HA, HK1, ⟨m1, rfl⟩⟩ := hrel
    cases gk with
    | zero => exact absurd HA.out (by simp [spec_l01Value.l0])
    | succ k1 =>
      have H := HA.out
      clear HA
      simp only [spec_l01Value.l0] at H
      by_cases c2 : x4_1 < (l0.length : Int)
      · rw [if_pos c2] at H
        have c2b0 : decide (x4_1 < (l0.length : Int)) = true := decide_eq_true c2
        clear c2
        by_cases c3 : 0 ≤ x4_1
        · rw [if_pos c3] at H
          have c3b0 : decide (0 ≤ x4_1) = true := decide_eq_true c3
          clear c3
          have H' := Aside0.mk H
          clear H
          have p255 : 0 ≤ (x4_1 : Int) := of_decide_eq_true (by first | (with_reducible assumption) | assumption)
          have q255 : x4_1 < (l0.length : Int) := of_decide_eq_true (by first | (with_reducible assumption) | assumption)
          obtain ⟨ad255, e255, hx255_0⟩ := Kd.at_int HR0.out x4_1 p255 q255
          cases e255
          replace p255 := eq_true p255
          replace q255 := eq_true q255
          go_wp2
          go_roundg k1
          case measure => have := HK1.out; omega
          case rel => exact ⟨(wrap64 ((wrap64 (x3_1 * 256)) + (wrap64 (rd l0 x4_1)))), (wrap64 (x4_1 + 1)), (by first | rfl | (simp; done) | (simp [*]; done)), (by first | rfl | (simp; done) | (simp [*]; done)), H', ⟨by have := HK1.out; omega⟩, by repeat (first | exact Drawn0.refl _ | apply Drawn0.step)⟩
        · rw [if_neg c3] at H
          exact absurd H (by simp)
      · rw [if_neg c2] at H
        have c2b0 : decide (x4_1 < (l0.length : Int)) = false := decide_eq_false c2
        clear c2
        obtain rfl := Option.some.inj H
        go_wp2
        go_ret
        exact ⟨by first | rfl | (simp; done) | (simp [*]; done), by repeat (first | exact Drawn0.refl _ | apply Drawn0.step)⟩

/-! ### spec_TokenCheck: function 25 -/
def spec_TokenCheck.j0 : Nat → Int → List Int → Bool → Option (List Int × Int)
  | 0, _, _, _ => none
  | k + 1, x2, x10, x44 => if x44 = true then (some ((([] : List Int)), 13)) else (if 8 ≤ (x10.length : Int) then ((spec_l01Value.f k (x10.take 8)).bind fun t284 => (if t284 > x2 then (some ((([] : List Int)), 13)) else (if (wrap64 (x2 - t284)) > 60000000 then (some ((([] : List Int)), 13)) else ((spec_l03Copy.f (x10.drop 8)).bind fun t295 => (some (t295, 0)))))) else (none))
def spec_TokenCheck.f (k : Nat) (l0 : List Int) (l1 : List Int) (a2 : Int) (l3 : List Int) : Option (List Int × Int) := (spec_l11TokenArgs.f l0 l1 a2).bind fun t256 => (if t256 = true then ((spec_KeysOf.f k l0).bind fun bt260 => ((spec_OpenSealed.f k bt260.1 bt260.2.1 bt260.2.2.1 bt260.2.2.2 0 l1 l3).bind fun bt272 => (if bt272.2 = 0 then (if (bt272.1.length : Int) < 8 then (spec_TokenCheck.j0 k a2 bt272.1 true) else (if (bt272.1.length : Int) > 16 then (spec_TokenCheck.j0 k a2 bt272.1 true) else (if 0 < (bt272.1.length : Int) then (spec_TokenCheck.j0 k a2 bt272.1 (decide ((rd bt272.1 0) ≥ 128))) else (none)))) else (spec_TokenCheck.j0 k a2 bt272.1 true)))) else (some ((([] : List Int)), 1)))
theorem spec_TokenCheck.mono_l : ∀ k, (∀ y0 y1 y2, LeO (spec_TokenCheck.j0 k y0 y1 y2) (spec_TokenCheck.j0 (k + 1) y0 y1 y2))
  | 0 => fun _ _ _ r h => by simp [spec_TokenCheck.j0] at h
  | k + 1 => by
    have ih0 := spec_TokenCheck.mono_l k
    · intro y0 y1 y2
      unfold spec_TokenCheck.j0
      repeat' first
      | (with_reducible exact ih0 _ _ _)
      | (with_reducible exact spec_KeysOf.mono _ _)
      | (with_reducible exact spec_OpenSealed.mono _ _ _ _ _ _ _ _)
      | (with_reducible exact spec_l01Value.mono _ _)
      | (with_reducible exact LeO.refl _)
      | (with_reducible exact LeO.none _)
      | (with_reducible refine LeO.ite ?_ ?_)
      | (with_reducible refine LeO.bind ?_ (fun _ => ?_))
      | exact ih0 _ _ _
      | exact spec_KeysOf.mono _ _
      | exact spec_OpenSealed.mono _ _ _ _ _ _ _ _
      | exact spec_l01Value.mono _ _
      | exact LeO.none _
      | refine LeO.ite ?_ ?_
      | refine LeO.bind ?_ (fun _ => ?_)
theorem spec_TokenCheck.mono : ∀ a0 a1 a2 a3 k, LeO (spec_TokenCheck.f k a0 a1 a2 a3) (spec_TokenCheck.f (k + 1) a0 a1 a2 a3) := by
  intro a0 a1 a2 a3 k
  have ih0 := spec_TokenCheck.mono_l k
  unfold spec_TokenCheck.f
  repeat' first
      | (with_reducible exact ih0 _ _ _)
      | (with_reducible exact spec_KeysOf.mono _ _)
      | (with_reducible exact spec_OpenSealed.mono _ _ _ _ _ _ _ _)
      | (with_reducible exact spec_l01Value.mono _ _)
      | (with_reducible exact LeO.refl _)
      | (with_reducible exact LeO.none _)
      | (with_reducible refine LeO.ite ?_ ?_)
      | (with_reducible refine LeO.bind ?_ (fun _ => ?_))
      | exact ih0 _ _ _
      | exact spec_KeysOf.mono _ _
      | exact spec_OpenSealed.mono _ _ _ _ _ _ _ _
      | exact spec_l01Value.mono _ _
      | exact LeO.none _
      | refine LeO.ite ?_ ?_
      | refine LeO.bind ?_ (fun _ => ?_)
set_option maxHeartbeats 8000000 in
set_option maxRecDepth 100000 in
theorem spec_TokenCheck.calls (k : Nat) (A0 : Option Addr) (c0 : Nat) (l0 : List Int) (A1 : Option Addr) (c1 : Nat) (l1 : List Int) (a2 : Int) (A3 : Option Addr) (c3 : Nat) (l3 : List Int) (r1 : List Int) (r2 : Int) (w : World) (hr0 : Kd.C (Kd.int .u8) w A0 l0.length l0) (hc0 : l0.length ≤ c0) (hr1 : Kd.C (Kd.int .u8) w A1 l1.length l1) (hc1 : l1.length ≤ c1) (hr3 : Kd.C (Kd.int .u8) w A3 l3.length l3) (hc3 : l3.length ≤ c3) (h : spec_TokenCheck.f k l0 l1 a2 l3 = some (r1, r2)) :
    Calls Try.prog 25 #[.slice A0 l0.length c0, .slice A1 l1.length c1, .int .i64 a2, .slice A3 l3.length c3] w fun e w' => ∃ v0_ : Value, e = .returned (.tuple #[v0_, .int .i64 r2]) ∧ Kd.R (Kd.int .u8) 5 w' w.heap.size (fun _ => True) v0_ r1 ∧ Below w.heap.size w w' := by
  have HR0 := Aside0.mk hr0
  have HC0 := Aside0.mk hc0
  clear hr0 hc0
  have HR1 := Aside0.mk hr1
  have HC1 := Aside0.mk hc1
  clear hr1 hc1
  have HR3 := Aside0.mk hr3
  have HC3 := Aside0.mk hc3
  clear hr3 hc3
  have HB := Aside0.mk (Below.refl w.heap.size w)
  have H : ((spec_l11TokenArgs.f l0 l1 a2).bind fun t256 => (if t256 = true then ((spec_KeysOf.f k l0).bind fun bt260 => ((spec_OpenSealed.f k bt260.1 bt260.2.1 bt260.2.2.1 bt260.2.2.2 0 l1 l3).bind fun bt272 => (if bt272.2 = 0 then (if (bt272.1.length : Int) < 8 then (spec_TokenCheck.j0 k a2 bt272.1 true) else (if (bt272.1.length : Int) > 16 then (spec_TokenCheck.j0 k a2 bt272.1 true) else (if 0 < (bt272.1.length : Int) then (spec_TokenCheck.j0 k a2 bt272.1 (decide ((rd bt272.1 0) ≥ 128))) else (none)))) else (spec_TokenCheck.j0 k a2 bt272.1 true)))) else (some ((([] : List Int)), 1)))) = some (r1, r2) := h
  clear h
  replace H := Option.bind_eq_some_iff.mp H
  obtain ⟨t256, A50, H⟩ := H
  replace H : (if t256 = true then ((spec_KeysOf.f k l0).bind fun bt260 => ((spec_OpenSealed.f k bt260.1 bt260.2.1 bt260.2.2.1 bt260.2.2.2 0 l1 l3).bind fun bt272 => (if bt272.2 = 0 then (if (bt272.1.length : Int) < 8 then (spec_TokenCheck.j0 k a2 bt272.1 true) else (if (bt272.1.length : Int) > 16 then (spec_TokenCheck.j0 k a2 bt272.1 true) else (if 0 < (bt272.1.length : Int) then (spec_TokenCheck.j0 k a2 bt272.1 (decide ((rd bt272.1 0) ≥ 128))) else (none)))) else (spec_TokenCheck.j0 k a2 bt272.1 true)))) else (some ((([] : List Int)), 1))) = some (r1, r2) := H
  have A5 := Aside0.mk A50
  clear A50
  by_cases c6 : t256 = true
  · subst c6
    have H1 : ((spec_KeysOf.f k l0).bind fun bt260 => ((spec_OpenSealed.f k bt260.1 bt260.2.1 bt260.2.2.1 bt260.2.2.2 0 l1 l3).bind fun bt272 => (if bt272.2 = 0 then (if (bt272.1.length : Int) < 8 then (spec_TokenCheck.j0 k a2 bt272.1 true) else (if (bt272.1.length : Int) > 16 then (spec_TokenCheck.j0 k a2 bt272.1 true) else (if 0 < (bt272.1.length : Int) then (spec_TokenCheck.j0 k a2 bt272.1 (decide ((rd bt272.1 0) ≥ 128))) else (none)))) else (spec_TokenCheck.j0 k a2 bt272.1 true)))) = some (r1, r2) := by rw [if_pos rfl] at H; exact H
    clear H
    have H := H1
    clear H1
    replace H := Option.bind_eq_some_iff.mp H
    obtain ⟨⟨t260, t263, t266, t269⟩, A70, H⟩ := H
    replace H : ((spec_OpenSealed.f k t260 t263 t266 t269 0 l1 l3).bind fun bt272 => (if bt272.2 = 0 then (if (bt272.1.length : Int) < 8 then (spec_TokenCheck.j0 k a2 bt272.1 true) else (if (bt272.1.length : Int) > 16 then (spec_TokenCheck.j0 k a2 bt272.1 true) else (if 0 < (bt272.1.length : Int) then (spec_TokenCheck.j0 k a2 bt272.1 (decide ((rd bt272.1 0) ≥ 128))) else (none)))) else (spec_TokenCheck.j0 k a2 bt272.1 true))) = some (r1, r2) := H
    have A7 := Aside0.mk A70
    clear A70
    replace H := Option.bind_eq_some_iff.mp H
    obtain ⟨⟨t272, t275⟩, A80, H⟩ := H
    replace H : (if t275 = 0 then (if (t272.length : Int) < 8 then (spec_TokenCheck.j0 k a2 t272 true) else (if (t272.length : Int) > 16 then (spec_TokenCheck.j0 k a2 t272 true) else (if 0 < (t272.length : Int) then (spec_TokenCheck.j0 k a2 t272 (decide ((rd t272 0) ≥ 128))) else (none)))) else (spec_TokenCheck.j0 k a2 t272 true)) = some (r1, r2) := H
    have A8 := Aside0.mk A80
    clear A80
    have HC9 := Aside0.mk H
    clear H
    go_enter Try.func25, Try.ntmps25
    go_upto_region 4 with (first | ((with_reducible refine gate_callee (f := 75) rfl ?_); refine goesL_ (some 16) rfl rfl Try.func75 (by kernel_rfl) rfl #[.slice A0 l0.length c0, .slice A1 l1.length c1, .int .i64 a2] rfl (by (try simp only [List.map_toArray, List.map_cons, List.map_nil]); first | done | rfl | (simp only [List.length_drop, List.length_take]; rfl)) ?_; (with_reducible refine (spec_l11TokenArgs.calls _ _ l0 _ _ l1 a2 true _ ?side1 ?side2 ?side3 ?side4 A5.out).mono ?_); (case side1 => repeat (first | exact HR0.out | (with_reducible refine Kd.C_alloc ?_ _) | (with_reducible refine Kd.C_drewN ?_ _) | (with_reducible refine Kd.C_drew ?_))); (case side2 => exact HC0.out); (case side3 => repeat (first | exact HR1.out | (with_reducible refine Kd.C_alloc ?_ _) | (with_reducible refine Kd.C_drewN ?_ _) | (with_reducible refine Kd.C_drew ?_))); (case side4 => exact HC1.out); rintro e w' ⟨rfl, ⟨nd, rfl⟩⟩; refine ⟨_, rfl, ?_⟩) | ((with_reducible refine gate_callee (f := 68) rfl ?_); refine goesL_ (some 21) rfl rfl Try.func68 (by kernel_rfl) rfl #[.slice A0 l0.length c0] rfl (by (try simp only [List.map_toArray, List.map_cons, List.map_nil]); first | done | rfl | (simp only [List.length_drop, List.length_take]; rfl)) ?_; (with_reducible refine (spec_KeysOf.calls k _ _ l0 t260 t263 t266 t269 _ ?side1 ?side2 A7.out).mono ?_); (case side1 => repeat (first | exact HR0.out | (with_reducible refine Kd.C_alloc ?_ _) | (with_reducible refine Kd.C_drewN ?_ _) | (with_reducible refine Kd.C_drew ?_))); (case side2 => exact HC0.out); rintro e w10 ⟨v261, v264, v267, v270, rfl, ho0, ho1, ho2, ho3, hb⟩; refine ⟨_, rfl, ?_⟩; have n0_ := Aside0.mk (Kd.R_lower ho0 (below_size (by repeat (first | (with_reducible first | exact HB.out | apply below_alloc | apply pw_below_drewN | apply below_drew1) | exact HB.out)))); have n1_ := Aside0.mk (Kd.R_lower ho1 (below_size (by repeat (first | (with_reducible first | exact HB.out | apply below_alloc | apply pw_below_drewN | apply below_drew1) | exact HB.out)))); have n2_ := Aside0.mk (Kd.R_lower ho2 (below_size (by repeat (first | (with_reducible first | exact HB.out | apply below_alloc | apply pw_below_drewN | apply below_drew1) | exact HB.out)))); have n3_ := Aside0.mk (Kd.R_lower ho3 (below_size (by repeat (first | (with_reducible first | exact HB.out | apply below_alloc | apply pw_below_drewN | apply below_drew1) | exact HB.out)))); have n4_ := Aside0.mk (below_step (by repeat (first | (with_reducible first | exact HB.out | apply below_alloc | apply pw_below_drewN | apply below_drew1) | exact HB.out)) hb); clear HB; have HO262 := n0_; have HO265 := n1_; have HO268 := n2_; have HO271 := n3_; have HB := n4_; clear n0_ n1_ n2_ n3_ n4_; (try clear hb); (try clear hb2); (try clear hk); (try clear hi); (try clear ho0); (try clear ho1); (try clear ho2); (try clear ho3); obtain ⟨Ao11, co11, eo11⟩ := Kd.R_slice HO262.out; subst eo11; obtain ⟨Ao12, co12, eo12⟩ := Kd.R_slice HO265.out; subst eo12; obtain ⟨Ao13, co13, eo13⟩ := Kd.R_slice HO268.out; subst eo13; obtain ⟨Ao14, co14, eo14⟩ := Kd.R_slice HO271.out; subst eo14) | ((with_reducible refine gate_callee (f := 34) rfl ?_); refine goesL_ (some 24) rfl rfl Try.func34 (by kernel_rfl) rfl #[.agg #[.slice Ao11 t260.length co11, .slice Ao12 t263.length co12, .slice Ao13 t266.length co13, .slice Ao14 t269.length co14], .int .i64 0, .slice A1 l1.length c1, .slice A3 l3.length c3] rfl (by (try simp only [List.map_toArray, List.map_cons, List.map_nil]); first | done | rfl | (simp only [List.length_drop, List.length_take]; rfl)) ?_; (with_reducible refine (spec_OpenSealed.calls k _ _ t260 _ _ t263 _ _ t266 _ _ t269 0 _ _ l1 _ _ l3 t272 t275 _ ?side1 ?side2 ?side3 ?side4 ?side5 ?side6 ?side7 ?side8 ?side9 ?side10 ?side11 ?side12 A8.out).mono ?_); (case side1 => repeat (first | exact (Kd.R_reads' HO262.out).2.2 | (with_reducible refine Kd.C_alloc ?_ _) | (with_reducible refine Kd.C_drewN ?_ _) | (with_reducible refine Kd.C_drew ?_))); (case side2 => exact (Kd.R_reads' HO262.out).2.1); (case side3 => repeat (first | exact (Kd.R_reads' HO265.out).2.2 | (with_reducible refine Kd.C_alloc ?_ _) | (with_reducible refine Kd.C_drewN ?_ _) | (with_reducible refine Kd.C_drew ?_))); (case side4 => exact (Kd.R_reads' HO265.out).2.1); (case side5 => repeat (first | exact (Kd.R_reads' HO268.out).2.2 | (with_reducible refine Kd.C_alloc ?_ _) | (with_reducible refine Kd.C_drewN ?_ _) | (with_reducible refine Kd.C_drew ?_))); (case side6 => exact (Kd.R_reads' HO268.out).2.1); (case side7 => repeat (first | exact (Kd.R_reads' HO271.out).2.2 | (with_reducible refine Kd.C_alloc ?_ _) | (with_reducible refine Kd.C_drewN ?_ _) | (with_reducible refine Kd.C_drew ?_))); (case side8 => exact (Kd.R_reads' HO271.out).2.1); (case side9 => repeat (first | exact (Kd.C_below HR1.out HB.out) | (with_reducible refine Kd.C_alloc ?_ _) | (with_reducible refine Kd.C_drewN ?_ _) | (with_reducible refine Kd.C_drew ?_))); (case side10 => exact HC1.out); (case side11 => repeat (first | exact (Kd.C_below HR3.out HB.out) | (with_reducible refine Kd.C_alloc ?_ _) | (with_reducible refine Kd.C_drewN ?_ _) | (with_reducible refine Kd.C_drew ?_))); (case side12 => exact HC3.out); rintro e w15 ⟨v273, rfl, ho0, hb⟩; refine ⟨_, rfl, ?_⟩; have n0_ := Aside0.mk (Kd.R_elder' (by (with_reducible repeat (first | apply Kd.R_alloc | apply Kd.R_drewN | apply Kd.R_drew)); exact HO262.out) (Kd.R_base ho0) hb); have n1_ := Aside0.mk (Kd.R_elder' (by (with_reducible repeat (first | apply Kd.R_alloc | apply Kd.R_drewN | apply Kd.R_drew)); exact HO265.out) (Kd.R_base ho0) hb); have n2_ := Aside0.mk (Kd.R_elder' (by (with_reducible repeat (first | apply Kd.R_alloc | apply Kd.R_drewN | apply Kd.R_drew)); exact HO268.out) (Kd.R_base ho0) hb); have n3_ := Aside0.mk (Kd.R_elder' (by (with_reducible repeat (first | apply Kd.R_alloc | apply Kd.R_drewN | apply Kd.R_drew)); exact HO271.out) (Kd.R_base ho0) hb); have n4_ := Aside0.mk (Kd.R_lower (Kd.R_new' (Kd.R_new' (Kd.R_new' (Kd.R_new' ho0 (Kd.R_lt (by (with_reducible repeat (first | apply Kd.R_alloc | apply Kd.R_drewN | apply Kd.R_drew)); exact HO262.out))) (Kd.R_lt (by (with_reducible repeat (first | apply Kd.R_alloc | apply Kd.R_drewN | apply Kd.R_drew)); exact HO265.out))) (Kd.R_lt (by (with_reducible repeat (first | apply Kd.R_alloc | apply Kd.R_drewN | apply Kd.R_drew)); exact HO268.out))) (Kd.R_lt (by (with_reducible repeat (first | apply Kd.R_alloc | apply Kd.R_drewN | apply Kd.R_drew)); exact HO271.out))) (below_size (by repeat (first | (with_reducible first | exact HB.out | apply below_alloc | apply pw_below_drewN | apply below_drew1) | exact HB.out)))); have n5_ := Aside0.mk (below_step (by repeat (first | (with_reducible first | exact HB.out | apply below_alloc | apply pw_below_drewN | apply below_drew1) | exact HB.out)) hb); clear HO262; clear HO265; clear HO268; clear HO271; clear HB; have HO262 := n0_; have HO265 := n1_; have HO268 := n2_; have HO271 := n3_; have HO274 := n4_; have HB := n5_; clear n0_ n1_ n2_ n3_ n4_ n5_; (try clear hb); (try clear hb2); (try clear hk); (try clear hi); (try clear ho0)))
    (try simp only [Act.put, List.setIfInBounds_toArray, List.set_cons_zero, List.set_cons_succ])
    go_cut [44] (fun v44 wc => ∃ (kq : Nat) (x44_8 : Bool), v44 = .bool x44_8 ∧ Aside0 (spec_TokenCheck.j0 kq a2 t272 x44_8 = some (r1, r2)) ∧ Aside0 (kq ≤ k) ∧ Aside0 (Kd.R (Kd.int .u8) 5 wc w.heap.size (fun _ => True) v273 t272) ∧ Aside0 (Below w.heap.size w wc))
    case first =>
      have H := HC9.out
      clear HC9
      by_cases c16 : t275 = 0
      · rw [if_pos c16] at H
        have c16b0 : (t275 == 0) = true := beq_iff_eq.mpr c16
        have c16b1 : (t275 != 0) = false := bne_eq_false_iff_eq.mpr c16
        clear c16
        (first | rw [c16b0] | (simp only [i64_w, i32_w]; rw [c16b0]) | skip)
        by_cases c17 : (t272.length : Int) < 8
        · rw [if_pos c17] at H
          have c17b0 : decide ((t272.length : Int) < 8) = true := decide_eq_true c17
          have c17b1 : decide (t272.length < 8) = true := decide_eq_true (by omega)
          clear c17
          have H' := Aside0.mk H
          clear H
          obtain ⟨Ao18, co18, eo18⟩ := Kd.R_slice HO274.out
          subst eo18
          go_wp2
          go_meet
          case rel => exact ⟨_, (true), (by first | rfl | (simp; done) | (simp [*]; done)), H', ⟨by first | omega | exact Nat.le_refl _⟩, ⟨by (with_reducible repeat (first | apply Kd.R_alloc | apply Kd.R_drewN | apply Kd.R_drew)); exact Kd.R_mono HO274.out (fun _ hk => trivial)⟩, ⟨by repeat (first | (with_reducible first | exact HB.out | apply below_alloc | apply pw_below_drewN | apply below_drew1) | exact HB.out)⟩⟩
        · rw [if_neg c17] at H
          have c17b0 : decide ((t272.length : Int) < 8) = false := decide_eq_false c17
          have c17b1 : decide (t272.length < 8) = false := decide_eq_false (by omega)
          clear c17
          by_cases c19 : (t272.length : Int) > 16
          · rw [if_pos c19] at H
            have c19b0 : decide (16 < (t272.length : Int)) = true := decide_eq_true c19
            have c19b1 : decide (16 < t272.length) = true := decide_eq_true (by omega)
            clear c19
            have H' := Aside0.mk H
            clear H
            obtain ⟨Ao20, co20, eo20⟩ := Kd.R_slice HO274.out
            subst eo20
            go_wp2
            go_meet
            case rel => exact ⟨_, (true), (by first | rfl | (simp; done) | (simp [*]; done)), H', ⟨by first | omega | exact Nat.le_refl _⟩, ⟨by (with_reducible repeat (first | apply Kd.R_alloc | apply Kd.R_drewN | apply Kd.R_drew)); exact Kd.R_mono HO274.out (fun _ hk => trivial)⟩, ⟨by repeat (first | (with_reducible first | exact HB.out | apply below_alloc | apply pw_below_drewN | apply below_drew1) | exact HB.out)⟩⟩
          · rw [if_neg c19] at H
            have c19b0 : decide (16 < (t272.length : Int)) = false := decide_eq_false c19
            have c19b1 : decide (16 < t272.length) = false := decide_eq_false (by omega)
            clear c19
            by_cases c21 : 0 < (t272.length : Int)
            · rw [if_pos c21] at H
              have c21b0 : decide (0 < (t272.length : Int)) = true := decide_eq_true c21
              have c21b1 : decide (0 < t272.length) = true := decide_eq_true (by omega)
              clear c21
              have H' := Aside0.mk H
              clear H
              obtain ⟨Ao22, co22, eo22⟩ := Kd.R_slice HO274.out
              subst eo22
              have p276 : 0 ≤ (0 : Int) := (by omega)
              have q276 : 0 < (t272.length : Int) := of_decide_eq_true (by first | (with_reducible assumption) | assumption)
              obtain ⟨ad276, e276, hx276_0⟩ := Kd.at_int (Kd.R_reads' HO274.out).2.2 0 p276 q276
              cases e276
              have qi276 : (0 < t272.length) = True := eq_true (by omega)
              (try rw [show ((0 : Int)).toNat = 0 from rfl] at hx276_0)
              (try rw [Addr.add_zero'] at hx276_0)
              replace p276 := eq_true p276
              replace q276 := eq_true q276
              go_wp2
              go_meet
              case rel => exact ⟨_, (decide ((rd t272 0) ≥ 128)), (by first | rfl | (simp; done) | (simp [*]; done)), H', ⟨by first | omega | exact Nat.le_refl _⟩, ⟨by (with_reducible repeat (first | apply Kd.R_alloc | apply Kd.R_drewN | apply Kd.R_drew)); exact Kd.R_mono HO274.out (fun _ hk => trivial)⟩, ⟨by repeat (first | (with_reducible first | exact HB.out | apply below_alloc | apply pw_below_drewN | apply below_drew1) | exact HB.out)⟩⟩
            · rw [if_neg c21] at H
              exact absurd H (by simp)
      · rw [if_neg c16] at H
        have c16b0 : (t275 == 0) = false := beq_eq_false_iff_ne.mpr c16
        have c16b1 : (t275 != 0) = true := bne_iff_ne.mpr c16
        (first | rw [c16b0] | (simp only [i64_w, i32_w]; rw [c16b0]) | skip)
        have H' := Aside0.mk H
        clear H
        go_wp2
        go_meet
        case rel => exact ⟨_, (true), (by first | rfl | (simp; done) | (simp [*]; done)), H', ⟨by first | omega | exact Nat.le_refl _⟩, ⟨by (with_reducible repeat (first | apply Kd.R_alloc | apply Kd.R_drewN | apply Kd.R_drew)); exact Kd.R_mono HO274.out (fun _ hk => trivial)⟩, ⟨by repeat (first | (with_reducible first | exact HB.out | apply below_alloc | apply pw_below_drewN | apply below_drew1) | exact HB.out)⟩⟩
    case rest =>
      clear HC9
      try clear c1
      try clear c2
      try clear p2
      try clear q2
      try clear hx2
      try clear qi2
      try clear c3
      try clear c6
      try clear c7
      try clear c16
      try clear c16b0
      try clear c16b1
      try clear c17
      try clear c17b0
      try clear c17b1
      try clear c19
      try clear c19b0
      try clear c19b1
      try clear c21
      try clear c21b0
      try clear c21b1
      try clear hx276_0
      try clear p276
      try clear q276
      obtain ⟨kq, x44_8, rfl, HA, HJ8, HO_10, HB⟩ := hcut
      cases kq with
      | zero => exact absurd HA.out (by simp [spec_TokenCheck.j0])
      | succ kj8 =>
        have H := HA.out
        clear HA
        simp only [spec_TokenCheck.j0] at H
        by_cases c23 : x44_8 = true
        · subst c23
          have H1 : (some ((([] : List Int)), 13)) = some (r1, r2) := by rw [if_pos rfl] at H; exact H
          clear H
          have H := H1
          clear H1
          obtain ⟨y277, hy277⟩ : ∃ y_ : List Int, y_ = (([] : List Int)) := ⟨_, rfl⟩
          replace H : (some (y277, 13)) = some (r1, r2) := by first | (rw [hy277]; with_reducible exact H) | (have H2_ := (Option.bind_some _ _).symm.trans H; rw [hy277]; with_reducible exact H2_) | (have H2_ := (Option.bind_some _ _).symm.trans H; with_reducible exact H2_) | with_reducible exact H | (rw [hy277]; exact H) | exact H
          have Ny277 := Aside0.mk hy277
          clear hy277
          simp only [Option.some.injEq, Prod.mk.injEq] at H
          obtain ⟨rfl, rfl⟩ := H
          go_wp2_with (first | ((with_reducible refine gate_dst (N := 45) rfl ?_); (try (refine gate_guard (by rfl) ?_; dsimp only)); refine Kd.R_lit (Kd.int .u8) _ 5 ?hg (N := 45) ?hd (xs := ([] : List Int)) (inner := []) (ok := fun _ => True) (okp := fun _ => True) ?hr ?hp (fun _ hk => hk) trivial (Below.refl _ _) (Nat.le_refl _) (by simp) ?_; (case hd => rfl); (case hg => rfl); (case hr => first | (go_simp; done) | (go_simp; rfl)); (case hp => exact (Reps.none _ _)); intro v278 w24 ho25 hb hg_ hnew_; clear hg_ hnew_; (first | rw [← Ny277.out] at ho25 | (simp only [Int.reduceToNat] at ho25; rw [← Ny277.out] at ho25)); have n0_ := Aside0.mk (Kd.R_elder' (by (with_reducible repeat (first | apply Kd.R_alloc | apply Kd.R_drewN | apply Kd.R_drew)); exact HO_10.out) (Kd.R_base ho25) hb); have n1_ := Aside0.mk (Kd.R_lower (Kd.R_new' ho25 (Kd.R_lt (by (with_reducible repeat (first | apply Kd.R_alloc | apply Kd.R_drewN | apply Kd.R_drew)); exact HO_10.out))) (below_size (by repeat (first | (with_reducible first | exact HB.out | apply below_alloc | apply pw_below_drewN | apply below_drew1) | exact HB.out)))); have n2_ := Aside0.mk (below_step (by repeat (first | (with_reducible first | exact HB.out | apply below_alloc | apply pw_below_drewN | apply below_drew1) | exact HB.out)) hb); clear HO_10; clear HB; have HO_10 := n0_; have HO279 := n1_; have HB := n2_; clear n0_ n1_ n2_; clear hb ho25))
          go_ret2
          exact ⟨_, by first | rfl | (simp [errW_none, errW_some] <;> rfl) | (simp [*, errW_none, errW_some] <;> rfl), by (with_reducible repeat (first | apply Kd.R_alloc | apply Kd.R_drewN | apply Kd.R_drew)); exact Kd.R_mono HO279.out (fun _ hk => trivial), by repeat (first | (with_reducible first | exact HB.out | apply below_alloc | apply pw_below_drewN | apply below_drew1) | exact HB.out)⟩
        · replace c23 := Bool.eq_false_iff.mpr c23
          subst c23
          have H1 : (if 8 ≤ (t272.length : Int) then ((spec_l01Value.f kj8 (t272.take 8)).bind fun t284 => (if t284 > a2 then (some ((([] : List Int)), 13)) else (if (wrap64 (a2 - t284)) > 60000000 then (some ((([] : List Int)), 13)) else ((spec_l03Copy.f (t272.drop 8)).bind fun t295 => (some (t295, 0)))))) else (none)) = some (r1, r2) := by rw [if_neg (show ¬ (false = true) by decide)] at H; exact H
          clear H
          have H := H1
          clear H1
          by_cases c26 : 8 ≤ (t272.length : Int)
          · rw [if_pos c26] at H
            have c26b0 := eq_true c26
            have c26b1 : decide (8 ≤ (t272.length : Int)) = true := decide_eq_true c26
            clear c26
            obtain ⟨y280, hy280⟩ : ∃ y_ : List Int, y_ = (t272.take 8) := ⟨_, rfl⟩
            replace H : ((spec_l01Value.f kj8 y280).bind fun t284 => (if t284 > a2 then (some ((([] : List Int)), 13)) else (if (wrap64 (a2 - t284)) > 60000000 then (some ((([] : List Int)), 13)) else ((spec_l03Copy.f (t272.drop 8)).bind fun t295 => (some (t295, 0)))))) = some (r1, r2) := by first | (rw [hy280]; with_reducible exact H) | (have H2_ := (Option.bind_some _ _).symm.trans H; rw [hy280]; with_reducible exact H2_) | (have H2_ := (Option.bind_some _ _).symm.trans H; with_reducible exact H2_) | with_reducible exact H | (rw [hy280]; exact H) | exact H
            have Ny280 := Aside0.mk hy280
            clear hy280
            replace H := Option.bind_eq_some_iff.mp H
            obtain ⟨t284, A270, H⟩ := H
            replace H : (if t284 > a2 then (some ((([] : List Int)), 13)) else (if (wrap64 (a2 - t284)) > 60000000 then (some ((([] : List Int)), 13)) else ((spec_l03Copy.f (t272.drop 8)).bind fun t295 => (some (t295, 0))))) = some (r1, r2) := H
            have A27 := Aside0.mk A270
            clear A270
            by_cases c28 : t284 > a2
            · rw [if_pos c28] at H
              have c28b0 : decide (a2 < t284) = true := decide_eq_true c28
              clear c28
              obtain ⟨y285, hy285⟩ : ∃ y_ : List Int, y_ = (([] : List Int)) := ⟨_, rfl⟩
              replace H : (some (y285, 13)) = some (r1, r2) := by first | (rw [hy285]; with_reducible exact H) | (have H2_ := (Option.bind_some _ _).symm.trans H; rw [hy285]; with_reducible exact H2_) | (have H2_ := (Option.bind_some _ _).symm.trans H; with_reducible exact H2_) | with_reducible exact H | (rw [hy285]; exact H) | exact H
              have Ny285 := Aside0.mk hy285
              clear hy285
              simp only [Option.some.injEq, Prod.mk.injEq] at H
              obtain ⟨rfl, rfl⟩ := H
              obtain ⟨Ao30, co30, eo30⟩ := Kd.R_slice HO_10.out
              subst eo30
              have q29 : (8 : Int) ≤ ((t272.length : Int) : Int) := of_decide_eq_true (by first | (with_reducible assumption) | assumption)
              obtain ⟨i029, hi029, _, hsz29, _⟩ := info_parts info5
              have hroom29 : t272.length ≤ co30 := (Kd.R_reads' HO_10.out).2.1
              have hC29 : Kd.C (Kd.int .u8) _ Ao30 t272.length t272 := (Kd.R_reads' HO_10.out).2.2
              have hcut29 := cut_to (P := Try.prog) 22 5 .i64 Try.underlying22 hi029 Ao30 t272.length co30 8 (by omega) q29 hroom29
              have hr29 := Kd.C_take (m := 8) hC29 (by omega)
              have hy29 : y280.length = (8 : Int).toNat := (by rw [Ny280.out, List.length_take]; omega)
              rw [← Ny280.out] at hr29
              rw [← hy29] at hcut29
              have HR283 := Aside0.mk hr29
              have HC283 := Aside0.mk (show y280.length ≤ co30 from by omega)
              clear hr29 hC29 hroom29 hi029 hsz29
              have KY29 := Aside0.mk hy29
              clear hy29
              have KL29 := Aside0.mk (show 8 ≤ t272.length from by omega)
              replace q29 := eq_true q29
              go_wp2_with (first | ((with_reducible refine gate_callee (f := 77) rfl ?_); refine goesL_ (some 48) rfl rfl Try.func77 (by kernel_rfl) rfl #[.slice Ao30 y280.length co30] rfl (by (try simp only [List.map_toArray, List.map_cons, List.map_nil]); first | done | rfl | (simp only [List.length_drop, List.length_take]; rfl)) ?_; (with_reducible refine (spec_l01Value.calls kj8 _ _ y280 t284 _ ?side1 ?side2 A27.out).mono ?_); (case side1 => repeat (first | exact (by repeat (first | (with_reducible exact HR283.out) | (with_reducible refine Kd.C_alloc ?_ _) | (with_reducible refine Kd.C_drewN ?_ _) | (with_reducible refine Kd.C_drew ?_) | exact HR283.out)) | (with_reducible refine Kd.C_alloc ?_ _) | (with_reducible refine Kd.C_drewN ?_ _) | (with_reducible refine Kd.C_drew ?_))); (case side2 => exact HC283.out); rintro e w' ⟨rfl, ⟨nd, rfl⟩⟩; refine ⟨_, rfl, ?_⟩) | ((with_reducible refine gate_dst (N := 58) rfl ?_); (try (refine gate_guard (by rfl) ?_; dsimp only)); refine Kd.R_lit (Kd.int .u8) _ 5 ?hg (N := 58) ?hd (xs := ([] : List Int)) (inner := []) (ok := fun _ => True) (okp := fun _ => True) ?hr ?hp (fun _ hk => hk) trivial (Below.refl _ _) (Nat.le_refl _) (by simp) ?_; (case hd => rfl); (case hg => rfl); (case hr => first | (go_simp; done) | (go_simp; rfl)); (case hp => exact (Reps.none _ _)); intro v286 w31 ho32 hb hg_ hnew_; clear hg_ hnew_; (first | rw [← Ny285.out] at ho32 | (simp only [Int.reduceToNat] at ho32; rw [← Ny285.out] at ho32)); have n0_ := Aside0.mk (Kd.R_elder' (by (with_reducible repeat (first | apply Kd.R_alloc | apply Kd.R_drewN | apply Kd.R_drew)); exact HO_10.out) (Kd.R_base ho32) hb); have n1_ := Aside0.mk (Kd.R_lower (Kd.R_new' ho32 (Kd.R_lt (by (with_reducible repeat (first | apply Kd.R_alloc | apply Kd.R_drewN | apply Kd.R_drew)); exact HO_10.out))) (below_size (by repeat (first | (with_reducible first | exact HB.out | apply below_alloc | apply pw_below_drewN | apply below_drew1) | exact HB.out)))); have n2_ := Aside0.mk (Kd.C_below (by repeat (first | (with_reducible exact HR283.out) | (with_reducible refine Kd.C_alloc ?_ _) | (with_reducible refine Kd.C_drewN ?_ _) | (with_reducible refine Kd.C_drew ?_) | exact HR283.out)) hb); have n3_ := Aside0.mk (below_step (by repeat (first | (with_reducible first | exact HB.out | apply below_alloc | apply pw_below_drewN | apply below_drew1) | exact HB.out)) hb); clear HO_10; clear HR283; clear HB; have HO_10 := n0_; have HO287 := n1_; have HR283 := n2_; have HB := n3_; clear n0_ n1_ n2_ n3_; clear hb ho32))
              go_ret2
              exact ⟨_, by first | rfl | (simp [errW_none, errW_some] <;> rfl) | (simp [*, errW_none, errW_some] <;> rfl), by (with_reducible repeat (first | apply Kd.R_alloc | apply Kd.R_drewN | apply Kd.R_drew)); exact Kd.R_mono HO287.out (fun _ hk => trivial), by repeat (first | (with_reducible first | exact HB.out | apply below_alloc | apply pw_below_drewN | apply below_drew1) | exact HB.out)⟩
            · rw [if_neg c28] at H
              have c28b0 : decide (a2 < t284) = false := decide_eq_false c28
              clear c28
              by_cases c33 : (wrap64 (a2 - t284)) > 60000000
              · rw [if_pos c33] at H
                have c33b0 : decide (60000000 < (wrap64 (a2 - t284))) = true := decide_eq_true c33
                clear c33
                obtain ⟨y288, hy288⟩ : ∃ y_ : List Int, y_ = (([] : List Int)) := ⟨_, rfl⟩
                replace H : (some (y288, 13)) = some (r1, r2) := by first | (rw [hy288]; with_reducible exact H) | (have H2_ := (Option.bind_some _ _).symm.trans H; rw [hy288]; with_reducible exact H2_) | (have H2_ := (Option.bind_some _ _).symm.trans H; with_reducible exact H2_) | with_reducible exact H | (rw [hy288]; exact H) | exact H
                have Ny288 := Aside0.mk hy288
                clear hy288
                simp only [Option.some.injEq, Prod.mk.injEq] at H
                obtain ⟨rfl, rfl⟩ := H
                obtain ⟨Ao35, co35, eo35⟩ := Kd.R_slice HO_10.out
                subst eo35
                have q34 : (8 : Int) ≤ ((t272.length : Int) : Int) := of_decide_eq_true (by first | (with_reducible assumption) | assumption)
                obtain ⟨i034, hi034, _, hsz34, _⟩ := info_parts info5
                have hroom34 : t272.length ≤ co35 := (Kd.R_reads' HO_10.out).2.1
                have hC34 : Kd.C (Kd.int .u8) _ Ao35 t272.length t272 := (Kd.R_reads' HO_10.out).2.2
                have hcut34 := cut_to (P := Try.prog) 22 5 .i64 Try.underlying22 hi034 Ao35 t272.length co35 8 (by omega) q34 hroom34
                have hr34 := Kd.C_take (m := 8) hC34 (by omega)
                have hy34 : y280.length = (8 : Int).toNat := (by rw [Ny280.out, List.length_take]; omega)
                rw [← Ny280.out] at hr34
                rw [← hy34] at hcut34
                have HR283 := Aside0.mk hr34
                have HC283 := Aside0.mk (show y280.length ≤ co35 from by omega)
                clear hr34 hC34 hroom34 hi034 hsz34
                have KY34 := Aside0.mk hy34
                clear hy34
                have KL34 := Aside0.mk (show 8 ≤ t272.length from by omega)
                replace q34 := eq_true q34
                go_wp2_with (first | ((with_reducible refine gate_callee (f := 77) rfl ?_); refine goesL_ (some 48) rfl rfl Try.func77 (by kernel_rfl) rfl #[.slice Ao35 y280.length co35] rfl (by (try simp only [List.map_toArray, List.map_cons, List.map_nil]); first | done | rfl | (simp only [List.length_drop, List.length_take]; rfl)) ?_; (with_reducible refine (spec_l01Value.calls kj8 _ _ y280 t284 _ ?side1 ?side2 A27.out).mono ?_); (case side1 => repeat (first | exact (by repeat (first | (with_reducible exact HR283.out) | (with_reducible refine Kd.C_alloc ?_ _) | (with_reducible refine Kd.C_drewN ?_ _) | (with_reducible refine Kd.C_drew ?_) | exact HR283.out)) | (with_reducible refine Kd.C_alloc ?_ _) | (with_reducible refine Kd.C_drewN ?_ _) | (with_reducible refine Kd.C_drew ?_))); (case side2 => exact HC283.out); rintro e w' ⟨rfl, ⟨nd, rfl⟩⟩; refine ⟨_, rfl, ?_⟩) | ((with_reducible refine gate_dst (N := 58) rfl ?_); (try (refine gate_guard (by rfl) ?_; dsimp only)); refine Kd.R_lit (Kd.int .u8) _ 5 ?hg (N := 58) ?hd (xs := ([] : List Int)) (inner := []) (ok := fun _ => True) (okp := fun _ => True) ?hr ?hp (fun _ hk => hk) trivial (Below.refl _ _) (Nat.le_refl _) (by simp) ?_; (case hd => rfl); (case hg => rfl); (case hr => first | (go_simp; done) | (go_simp; rfl)); (case hp => exact (Reps.none _ _)); intro v289 w36 ho37 hb hg_ hnew_; clear hg_ hnew_; (first | rw [← Ny288.out] at ho37 | (simp only [Int.reduceToNat] at ho37; rw [← Ny288.out] at ho37)); have n0_ := Aside0.mk (Kd.R_elder' (by (with_reducible repeat (first | apply Kd.R_alloc | apply Kd.R_drewN | apply Kd.R_drew)); exact HO_10.out) (Kd.R_base ho37) hb); have n1_ := Aside0.mk (Kd.R_lower (Kd.R_new' ho37 (Kd.R_lt (by (with_reducible repeat (first | apply Kd.R_alloc | apply Kd.R_drewN | apply Kd.R_drew)); exact HO_10.out))) (below_size (by repeat (first | (with_reducible first | exact HB.out | apply below_alloc | apply pw_below_drewN | apply below_drew1) | exact HB.out)))); have n2_ := Aside0.mk (Kd.C_below (by repeat (first | (with_reducible exact HR283.out) | (with_reducible refine Kd.C_alloc ?_ _) | (with_reducible refine Kd.C_drewN ?_ _) | (with_reducible refine Kd.C_drew ?_) | exact HR283.out)) hb); have n3_ := Aside0.mk (below_step (by repeat (first | (with_reducible first | exact HB.out | apply below_alloc | apply pw_below_drewN | apply below_drew1) | exact HB.out)) hb); clear HO_10; clear HR283; clear HB; have HO_10 := n0_; have HO290 := n1_; have HR283 := n2_; have HB := n3_; clear n0_ n1_ n2_ n3_; clear hb ho37))
                go_ret2
                exact ⟨_, by first | rfl | (simp [errW_none, errW_some] <;> rfl) | (simp [*, errW_none, errW_some] <;> rfl), by (with_reducible repeat (first | apply Kd.R_alloc | apply Kd.R_drewN | apply Kd.R_drew)); exact Kd.R_mono HO290.out (fun _ hk => trivial), by repeat (first | (with_reducible first | exact HB.out | apply below_alloc | apply pw_below_drewN | apply below_drew1) | exact HB.out)⟩
              · rw [if_neg c33] at H
                have c33b0 : decide (60000000 < (wrap64 (a2 - t284))) = false := decide_eq_false c33
                clear c33
                have c38b0 := eq_true (of_decide_eq_true (by first | (with_reducible assumption) | assumption) : 8 ≤ (t272.length : Int))
                obtain ⟨y291, hy291⟩ : ∃ y_ : List Int, y_ = (t272.drop 8) := ⟨_, rfl⟩
                replace H : ((spec_l03Copy.f y291).bind fun t295 => (some (t295, 0))) = some (r1, r2) := by first | (rw [hy291]; with_reducible exact H) | (have H2_ := (Option.bind_some _ _).symm.trans H; rw [hy291]; with_reducible exact H2_) | (have H2_ := (Option.bind_some _ _).symm.trans H; with_reducible exact H2_) | with_reducible exact H | (rw [hy291]; exact H) | exact H
                have Ny291 := Aside0.mk hy291
                clear hy291
                replace H := Option.bind_eq_some_iff.mp H
                obtain ⟨t295, A390, H⟩ := H
                replace H : (some (t295, 0)) = some (r1, r2) := H
                have A39 := Aside0.mk A390
                clear A390
                simp only [Option.some.injEq, Prod.mk.injEq] at H
                obtain ⟨rfl, rfl⟩ := H
                obtain ⟨Ao41, co41, eo41⟩ := Kd.R_slice HO_10.out
                subst eo41
                have q40 : (8 : Int) ≤ ((t272.length : Int) : Int) := of_decide_eq_true (by first | (with_reducible assumption) | assumption)
                obtain ⟨i040, hi040, _, hsz40, _⟩ := info_parts info5
                have hroom40 : t272.length ≤ co41 := (Kd.R_reads' HO_10.out).2.1
                have hC40 : Kd.C (Kd.int .u8) _ Ao41 t272.length t272 := (Kd.R_reads' HO_10.out).2.2
                have hcut40 := cut_to (P := Try.prog) 22 5 .i64 Try.underlying22 hi040 Ao41 t272.length co41 8 (by omega) q40 hroom40
                have hr40 := Kd.C_take (m := 8) hC40 (by omega)
                have hy40 : y280.length = (8 : Int).toNat := (by rw [Ny280.out, List.length_take]; omega)
                rw [← Ny280.out] at hr40
                rw [← hy40] at hcut40
                have HR283 := Aside0.mk hr40
                have HC283 := Aside0.mk (show y280.length ≤ co41 from by omega)
                clear hr40 hC40 hroom40 hi040 hsz40
                have KY40 := Aside0.mk hy40
                clear hy40
                have KL40 := Aside0.mk (show 8 ≤ t272.length from by omega)
                replace q40 := eq_true q40
                go_wp2_with (first | ((with_reducible refine gate_callee (f := 77) rfl ?_); refine goesL_ (some 48) rfl rfl Try.func77 (by kernel_rfl) rfl #[.slice Ao41 y280.length co41] rfl (by (try simp only [List.map_toArray, List.map_cons, List.map_nil]); first | done | rfl | (simp only [List.length_drop, List.length_take]; rfl)) ?_; (with_reducible refine (spec_l01Value.calls kj8 _ _ y280 t284 _ ?side1 ?side2 A27.out).mono ?_); (case side1 => repeat (first | exact (by repeat (first | (with_reducible exact HR283.out) | (with_reducible refine Kd.C_alloc ?_ _) | (with_reducible refine Kd.C_drewN ?_ _) | (with_reducible refine Kd.C_drew ?_) | exact HR283.out)) | (with_reducible refine Kd.C_alloc ?_ _) | (with_reducible refine Kd.C_drewN ?_ _) | (with_reducible refine Kd.C_drew ?_))); (case side2 => exact HC283.out); rintro e w' ⟨rfl, ⟨nd, rfl⟩⟩; refine ⟨_, rfl, ?_⟩; have q42 : (8 : Int) ≤ ((t272.length : Int) : Int) := of_decide_eq_true (by first | (with_reducible assumption) | assumption); obtain ⟨i042, hi042, _, hsz42, _⟩ := info_parts info5; have hroom42 : t272.length ≤ co41 := (Kd.R_reads' HO_10.out).2.1; have hC42 : Kd.C (Kd.int .u8) _ Ao41 t272.length t272 := (Kd.R_reads' HO_10.out).2.2; have hcut42 := cut_from (P := Try.prog) 22 5 .i64 Try.underlying22 hi042 1 hsz42 Ao41 t272.length co41 8 (by omega) q42; have hr42 := Kd.C_drop (m := (8 : Int).toNat) (c := co41) hC42 (by omega) hroom42; obtain ⟨A42, hA42⟩ : ∃ A1, A1 = (if co41 = (8 : Int).toNat then Ao41 else (Ao41 : Option Addr).map (·.add ((8 : Int).toNat * 1))) := ⟨_, rfl⟩; obtain ⟨c42, hc42⟩ : ∃ c1, c1 = co41 - (8 : Int).toNat := ⟨_, rfl⟩; have hy42 : y291.length = t272.length - (8 : Int).toNat := (by rw [Ny291.out, List.length_drop] <;> omega); rw [show (t272).drop (8 : Int).toNat = y291 from Ny291.out.symm] at hr42; replace hr42 : Kd.C (Kd.int .u8) _ A42 y291.length y291 := (by rw [hA42]; exact hr42); rw [← hy42, ← hA42, ← hc42] at hcut42; have HR294 := Aside0.mk hr42; have HC294 := Aside0.mk (show y291.length ≤ c42 from by rw [hy42, hc42]; exact Nat.sub_le_sub_right hroom42 _); clear hr42 hC42 hroom42 hi042 hsz42 hc42; have KY42 := Aside0.mk hy42; have KA42 := Aside0.mk hA42; clear hy42 hA42; have KL42 := Aside0.mk (show 8 ≤ t272.length from by omega); replace q42 := eq_true q42) | ((with_reducible refine gate_callee (f := 78) rfl ?_); refine goesL_ (some 61) rfl rfl Try.func78 (by kernel_rfl) rfl #[.slice A42 y291.length c42] rfl (by (try simp only [List.map_toArray, List.map_cons, List.map_nil]); first | done | rfl | (simp only [List.length_drop, List.length_take]; rfl)) ?_; (with_reducible refine (spec_l03Copy.calls _ _ y291 t295 _ ?side1 ?side2 A39.out).mono ?_); (case side1 => repeat (first | exact (by repeat (first | (with_reducible exact HR294.out) | (with_reducible refine Kd.C_alloc ?_ _) | (with_reducible refine Kd.C_drewN ?_ _) | (with_reducible refine Kd.C_drew ?_) | exact HR294.out)) | (with_reducible refine Kd.C_alloc ?_ _) | (with_reducible refine Kd.C_drewN ?_ _) | (with_reducible refine Kd.C_drew ?_))); (case side2 => exact HC294.out); rintro e w43 ⟨v296, rfl, ho0, hb⟩; refine ⟨_, rfl, ?_⟩; have n0_ := Aside0.mk (Kd.R_elder' (by (with_reducible repeat (first | apply Kd.R_alloc | apply Kd.R_drewN | apply Kd.R_drew)); exact HO_10.out) (Kd.R_base ho0) hb); have n1_ := Aside0.mk (Kd.R_lower (Kd.R_new' ho0 (Kd.R_lt (by (with_reducible repeat (first | apply Kd.R_alloc | apply Kd.R_drewN | apply Kd.R_drew)); exact HO_10.out))) (below_size (by repeat (first | (with_reducible first | exact HB.out | apply below_alloc | apply pw_below_drewN | apply below_drew1) | exact HB.out)))); have n2_ := Aside0.mk (Kd.C_below (by repeat (first | (with_reducible exact HR283.out) | (with_reducible refine Kd.C_alloc ?_ _) | (with_reducible refine Kd.C_drewN ?_ _) | (with_reducible refine Kd.C_drew ?_) | exact HR283.out)) hb); have n3_ := Aside0.mk (Kd.C_below (by repeat (first | (with_reducible exact HR294.out) | (with_reducible refine Kd.C_alloc ?_ _) | (with_reducible refine Kd.C_drewN ?_ _) | (with_reducible refine Kd.C_drew ?_) | exact HR294.out)) hb); have n4_ := Aside0.mk (below_step (by repeat (first | (with_reducible first | exact HB.out | apply below_alloc | apply pw_below_drewN | apply below_drew1) | exact HB.out)) hb); clear HO_10; clear HR283; clear HR294; clear HB; have HO_10 := n0_; have HO297 := n1_; have HR283 := n2_; have HR294 := n3_; have HB := n4_; clear n0_ n1_ n2_ n3_ n4_; (try clear hb); (try clear hb2); (try clear hk); (try clear hi); (try clear ho0)))
                go_ret2
                exact ⟨_, by first | rfl | (simp [errW_none, errW_some] <;> rfl) | (simp [*, errW_none, errW_some] <;> rfl), by (with_reducible repeat (first | apply Kd.R_alloc | apply Kd.R_drewN | apply Kd.R_drew)); exact Kd.R_mono HO297.out (fun _ hk => trivial), by repeat (first | (with_reducible first | exact HB.out | apply below_alloc | apply pw_below_drewN | apply below_drew1) | exact HB.out)⟩
          · rw [if_neg c26] at H
            exact absurd H (by simp)
  · replace c6 := Bool.eq_false_iff.mpr c6
    subst c6
    have H1 : (some ((([] : List Int)), 1)) = some (r1, r2) := by rw [if_neg (show ¬ (false = true) by decide)] at H; exact H
    clear H
    have H := H1
    clear H1
    obtain ⟨y257, hy257⟩ : ∃ y_ : List Int, y_ = (([] : List Int)) := ⟨_, rfl⟩
    replace H : (some (y257, 1)) = some (r1, r2) := by first | (rw [hy257]; with_reducible exact H) | (have H2_ := (Option.bind_some _ _).symm.trans H; rw [hy257]; with_reducible exact H2_) | (have H2_ := (Option.bind_some _ _).symm.trans H; with_reducible exact H2_) | with_reducible exact H | (rw [hy257]; exact H) | exact H
    have Ny257 := Aside0.mk hy257
    clear hy257
    simp only [Option.some.injEq, Prod.mk.injEq] at H
    obtain ⟨rfl, rfl⟩ := H
    go_enter Try.func25, Try.ntmps25
    go_wp2_with (first | ((with_reducible refine gate_callee (f := 75) rfl ?_); refine goesL_ (some 16) rfl rfl Try.func75 (by kernel_rfl) rfl #[.slice A0 l0.length c0, .slice A1 l1.length c1, .int .i64 a2] rfl (by (try simp only [List.map_toArray, List.map_cons, List.map_nil]); first | done | rfl | (simp only [List.length_drop, List.length_take]; rfl)) ?_; (with_reducible refine (spec_l11TokenArgs.calls _ _ l0 _ _ l1 a2 false _ ?side1 ?side2 ?side3 ?side4 A5.out).mono ?_); (case side1 => repeat (first | exact HR0.out | (with_reducible refine Kd.C_alloc ?_ _) | (with_reducible refine Kd.C_drewN ?_ _) | (with_reducible refine Kd.C_drew ?_))); (case side2 => exact HC0.out); (case side3 => repeat (first | exact HR1.out | (with_reducible refine Kd.C_alloc ?_ _) | (with_reducible refine Kd.C_drewN ?_ _) | (with_reducible refine Kd.C_drew ?_))); (case side4 => exact HC1.out); rintro e w' ⟨rfl, ⟨nd, rfl⟩⟩; refine ⟨_, rfl, ?_⟩) | ((with_reducible refine gate_dst (N := 18) rfl ?_); (try (refine gate_guard (by rfl) ?_; dsimp only)); refine Kd.R_lit (Kd.int .u8) _ 5 ?hg (N := 18) ?hd (xs := ([] : List Int)) (inner := []) (ok := fun _ => True) (okp := fun _ => True) ?hr ?hp (fun _ hk => hk) trivial (Below.refl _ _) (Nat.le_refl _) (by simp) ?_; (case hd => rfl); (case hg => rfl); (case hr => first | (go_simp; done) | (go_simp; rfl)); (case hp => exact (Reps.none _ _)); intro v258 w44 ho45 hb hg_ hnew_; clear hg_ hnew_; (first | rw [← Ny257.out] at ho45 | (simp only [Int.reduceToNat] at ho45; rw [← Ny257.out] at ho45)); have n0_ := Aside0.mk (Kd.R_lower ho45 (below_size (by repeat (first | (with_reducible first | exact HB.out | apply below_alloc | apply pw_below_drewN | apply below_drew1) | exact HB.out)))); have n1_ := Aside0.mk (below_step (by repeat (first | (with_reducible first | exact HB.out | apply below_alloc | apply pw_below_drewN | apply below_drew1) | exact HB.out)) hb); clear HB; have HO259 := n0_; have HB := n1_; clear n0_ n1_; clear hb ho45))
    go_ret2
    exact ⟨_, by first | rfl | (simp [errW_none, errW_some] <;> rfl) | (simp [*, errW_none, errW_some] <;> rfl), by (with_reducible repeat (first | apply Kd.R_alloc | apply Kd.R_drewN | apply Kd.R_drew)); exact HO259.out, by repeat (first | (with_reducible first | exact HB.out | apply below_alloc | apply pw_below_drewN | apply below_drew1) | exact HB.out)⟩

end Go.Proofs.Ytolpikjbdfpdcaa.PFnExactTokenCheck
