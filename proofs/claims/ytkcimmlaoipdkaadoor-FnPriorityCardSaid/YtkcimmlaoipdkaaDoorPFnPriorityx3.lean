-- Written by a program of this repo (xprint.py) out of the translation; Lean checks it.
import Derived.Test.YtkcimmlaoipdkaaDoorPFnPriorityx0
namespace Go.Proofs.YtkcimmlaoipdkaaDoor.PFnPriority
open Go.RowKit Go.Proofs.YtkcimmlaoipdkaaDoorW.PrintWords Go.Proofs.YtkcimmlaoipdkaaDoorW.PrintLast Go.Proofs.YtkcimmlaoipdkaaDoorW.PrintMore
attribute [local go_sem] max2_int min2_int max_two min_two max_three min_three max_four min_four   -- for this text's walks alone
set_option linter.unusedVariables false
set_option linter.unusedSimpArgs false

/-! ### impl_ReadPriority: function 14 -/
section
open Go.Proofs.YtkcimmlaoipdkaaDoor.RangeC
attribute [local go_sem] Oper.semAt_some
set_option maxHeartbeats 2000000
set_option maxRecDepth 100000
theorem splitSeq_made (s sep : ByteArray) (w : World) : Calls Tryd.prog 63 #[.string s, .string sep, .int .i64 0] w fun e w' =>
    e = .returned (.func (.func 83) #[] #[.pointer (some ⟨w.heap.size + 1, 0, none⟩), .pointer (some ⟨w.heap.size, 0, none⟩), .pointer (some ⟨w.heap.size + 2, 0, none⟩)]) ∧
    w' = ((w.alloc (.cells #[.string s] 9)).alloc (.cells #[.string sep] 9)).alloc (.cells #[.int .i64 0] 3) := by
  go_enter Tryd.func63, Tryd.ntmps63
  go_wp2
  go_ret
  exact ⟨by first | rfl | (simp; done) | (simp [*]; done), rfl⟩
theorem SplitSeq_made (s sep : ByteArray) (w : World) : Calls Tryd.prog 42 #[.string s, .string sep] w fun e w' =>
    e = .returned (.func (.func 83) #[] #[.pointer (some ⟨w.heap.size + 1, 0, none⟩), .pointer (some ⟨w.heap.size, 0, none⟩), .pointer (some ⟨w.heap.size + 2, 0, none⟩)]) ∧
    w' = ((w.alloc (.cells #[.string s] 9)).alloc (.cells #[.string sep] 9)).alloc (.cells #[.int .i64 0] 3) := by
  go_enter Tryd.func42, Tryd.ntmps42
  go_wp2_with (go_at_call 63; refine (splitSeq_made s sep _).mono ?_; rintro e w1 ⟨rfl, rfl⟩)
  go_ret
  exact ⟨by first | rfl | (simp; done) | (simp [*]; done), rfl⟩
def piecesN (c : UInt8) : Nat → ByteArray → List ByteArray
  | 0, s => [s]
  | d + 1, s => if Go.Lib.indexByte s.data.toList c < 0 then [s] else s.extract 0 (Go.Lib.indexByte s.data.toList c).toNat :: piecesN c d (s.extract ((Go.Lib.indexByte s.data.toList c).toNat + 1) s.size)
theorem idx_range (c : UInt8) : ∀ l : List UInt8, Go.Lib.indexByte l c = -1 ∨ (0 ≤ Go.Lib.indexByte l c ∧ Go.Lib.indexByte l c < l.length)
  | [] => .inl rfl
  | b :: l => by
    unfold Go.Lib.indexByte
    have ih := idx_range c l
    by_cases h : (b == c) = true
    · rw [if_pos h]
      right
      simp
    · rw [if_neg h]
      rcases ih with h1 | ⟨h1, h2⟩
      · rw [h1]
        left
        rfl
      · rw [if_neg (by simp; omega)]
        right
        simp
        omega
theorem w_small (q : Int) (h0 : 0 ≤ q) (h1 : q < 2000) : wrap64 q = q := by unfold wrap64; omega
def strLen (b : Nat) (w : World) : Nat := match w.cell? ⟨b, 0, none⟩ with | some (.string s) => s.size | _ => 0
theorem strLen_is {b : Nat} {w : World} {s : ByteArray} (h : w.cell? ⟨b, 0, none⟩ = some (.string s)) : strLen b w = s.size := by unfold strLen; rw [h]
def SplitInv (J : List ByteArray → World → Prop) (Bs : Nat) (xs : List ByteArray) (wr : World) : Prop := ∃ (pre : List ByteArray) (cur : ByteArray) (d : Nat), cur.size ≤ d ∧ cur.size ≤ 1024 ∧ xs = pre ++ piecesN 44 d cur ∧ Aside0 (J pre wr) ∧ Aside0 (wr.heap[Bs]? = some (.cells #[.string cur] 9 (0, 0))) ∧ Aside0 (wr.heap[Bs + 1]? = some (.cells #[.string ⟨#[44]⟩] 9 (0, 0))) ∧ Aside0 (wr.heap[Bs + 2]? = some (.cells #[.int .i64 0] 3 (0, 0)))
theorem split_seq (n : Nat) (hn : 1 ≤ n) (s : ByteArray) (hk : s.size ≤ 1024) (w : World) (Bs : Nat) (hs : w.heap[Bs]? = some (.cells #[.string s] 9 (0, 0))) (hp : w.heap[Bs + 1]? = some (.cells #[.string ⟨#[44]⟩] 9 (0, 0))) (hv : w.heap[Bs + 2]? = some (.cells #[.int .i64 0] 3 (0, 0))) :
    Seq Fence.wide n Tryd.prog 83 #[.pointer (some ⟨Bs + 1, 0, none⟩), .pointer (some ⟨Bs, 0, none⟩), .pointer (some ⟨Bs + 2, 0, none⟩)] (fun x : ByteArray => #[.string x]) (piecesN 44 s.size s) Bs Bs w := by
  intro l J W hW hWs hJd hJs hY h0
  have hz := (Array.getElem?_eq_some_iff.1 hv).1
  have HS := Aside0.mk ((hW Bs (by omega)).trans hs)
  have HP := Aside0.mk ((hW (Bs + 1) (by omega)).trans hp)
  have HV := Aside0.mk ((hW (Bs + 2) (by omega)).trans hv)
  have HY := Aside0.mk hY
  have HJS := Aside0.mk hJs
  have H0 := Aside0.mk h0
  clear hs hp hv hW hY hJs hJd h0
  have hcp : W.cell? ⟨Bs + 1, 0, none⟩ = some (.string ⟨#[44]⟩) := (blk_cell HP.out 0).trans rfl
  refine callsIn_of_wp Tryd.func83 rfl trivial ?_
  simp only [Tryd.ntmps83, List.size_toArray, List.length_cons, List.length_nil, Nat.reduceAdd, Nat.reduceSub, Array.replicate_succ, Array.replicate_zero, List.push_toArray, List.append_toArray, List.nil_append, List.cons_append]
  gi_wp2
  gi_loopw [7] (fun v7 wr => SplitInv J Bs (piecesN 44 s.size s) wr) (fun v7 wr => strLen Bs wr)
  case atStart => exact ⟨[], s, s.size, Nat.le_refl _, hk, rfl, H0, HS, HP, HV⟩
  case round =>
    clear HS HP HV H0 hcp
    obtain ⟨pre, cur, d, hd, hsm, hx, HJ, HS, HP, HV⟩ := hrel
    have hcs : wr.cell? ⟨Bs, 0, none⟩ = some (.string cur) := (blk_cell HS.out 0).trans rfl
    have hcp : wr.cell? ⟨Bs + 1, 0, none⟩ = some (.string ⟨#[44]⟩) := (blk_cell HP.out 0).trans rfl
    have hcv : wr.cell? ⟨Bs + 2, 0, none⟩ = some (.int .i64 0) := (blk_cell HV.out 0).trans rfl
    have hfs := blk_frozen HS.out 0
    have hY := HY.out
    have hlen : (cur.data.toList.length : Int) = cur.size := by rw [Array.length_toList]; rfl
    rcases idx_range 44 cur.data.toList with hi | ⟨h0, h1⟩
    · have hpc : piecesN 44 d cur = [cur] := by
        cases d with
        | zero => rfl
        | succ d => rw [piecesN, if_pos (by rw [hi]; decide)]
      rw [hpc] at hx
      obtain ⟨fn, tmps, assign, body, hy, hR⟩ := hY pre cur wr HJ.out (by rw [hx]; exact List.prefix_refl _)
      try dsimp only at hy
      have HIX := Aside0.mk hi
      clear hi hpc hY
      gi_wp2_with (refine ⟨trivial, ?_⟩; gi_at_call 85; refine (callsIn_wide.2 (Tryd.strings_Index_one cur 44 _)).mono ?_; rintro e w1 ⟨rfl, rfl⟩; rw [HIX.out])
      refine hR.mono ?_
      rintro e W3 ⟨rfl, hJ3, hk3⟩
      gi_wp2
      go_end0
      exact ⟨⟨_, rfl⟩, by rw [hx]; exact hJ3⟩
    · obtain ⟨d, rfl⟩ : ∃ m, d = m + 1 := ⟨d - 1, by omega⟩
      obtain ⟨i, hi⟩ : ∃ i : Nat, Go.Lib.indexByte cur.data.toList 44 = i := ⟨(Go.Lib.indexByte cur.data.toList 44).toNat, by omega⟩
      rw [hi] at h0 h1
      have hpd : piecesN 44 (d + 1) cur = cur.extract 0 i :: piecesN 44 d (cur.extract (i + 1) cur.size) := by
        have hnn : ¬ ((i : Int) < 0) := by omega
        have e : ∀ q : Int, q = (i : Int) → (if q < 0 then [cur] else cur.extract 0 q.toNat :: piecesN 44 d (cur.extract (q.toNat + 1) cur.size)) = cur.extract 0 i :: piecesN 44 d (cur.extract (i + 1) cur.size) := fun q hq => by rw [hq, if_neg hnn, Int.toNat_natCast]
        exact e _ hi
      have hxp : piecesN 44 s.size s = (pre ++ [cur.extract 0 i]) ++ piecesN 44 d (cur.extract (i + 1) cur.size) := by rw [hx, hpd, List.append_assoc]; rfl
      clear hpd
      obtain ⟨fn, tmps, assign, body, hy, hR⟩ := hY pre (cur.extract 0 i) wr HJ.out (by rw [hxp]; exact List.prefix_append _ _)
      try dsimp only at hy
      have HIX := Aside0.mk hi
      have hil : i < cur.size := by omega
      obtain ⟨j, hj⟩ : ∃ j : Int, j = (i : Int) + 1 := ⟨_, rfl⟩
      have hj0 : 0 ≤ j := by omega
      have HJI := Aside0.mk hj
      have hin : decide ((i : Int) < 0) = false := decide_eq_false (by omega)
      have hb1 : (i : Int) ≤ cur.size := by omega
      have hb2 : j ≤ cur.size := by omega
      have HB2 := Aside0.mk hb2
      have HB3 : Aside0 (j.toNat = i + 1) := ⟨by omega⟩
      have hi1 : (i : Int) < 2000 := by omega
      have hi2 : (i : Int) + 1 < 2000 := by omega
      have hi3 : (0 : Int) ≤ (i : Int) + 1 := by omega
      have hwi : wrap64 (i : Int) = i := w_small _ h0 hi1
      have hwj : wrap64 ((i : Int) + 1) = j := (w_small _ hi3 hi2).trans hj.symm
      clear hj hi1 hi2 hi3
      clear hi hY hx h0 h1 hlen
      gi_wp2_with (refine ⟨trivial, ?_⟩; gi_at_call 85; refine (callsIn_wide.2 (Tryd.strings_Index_one cur 44 _)).mono ?_; rintro e w1 ⟨rfl, rfl⟩; rw [HIX.out])
      refine hR.mono ?_
      rintro e W3 ⟨rfl, hJ3, hk3⟩
      have HS3 := Aside0.mk ((hk3 Bs (Nat.le_refl _) (by omega)).trans HS.out)
      have HP3 := Aside0.mk ((hk3 (Bs + 1) (by omega) (by omega)).trans HP.out)
      have HV3 := Aside0.mk ((hk3 (Bs + 2) (by omega) (by omega)).trans HV.out)
      have HJ3 := Aside0.mk hJ3
      have hcs3 : W3.cell? ⟨Bs, 0, none⟩ = some (.string cur) := (blk_cell HS3.out 0).trans rfl
      have hcp3 : W3.cell? ⟨Bs + 1, 0, none⟩ = some (.string ⟨#[44]⟩) := (blk_cell HP3.out 0).trans rfl
      have hfs3 := blk_frozen HS3.out 0
      have HM := Aside0.mk (strLen_is hcs)
      have HX := Aside0.mk hxp
      have HD := Aside0.mk hd
      have HIL := Aside0.mk hil
      have HSM := Aside0.mk hsm
      clear hk3 hJ3 hR hy hcs hcp hcv hfs HS HP HV HJ hxp hd hil hb1 hsm hk hWs hin hwi hb2
      gi_wp2
      case isFalse => rename_i hx; exact absurd HB2.out (Int.not_le.2 hx)
      have hxp := HX.out
      have hd := HD.out
      have hil := HIL.out
      have hsm := HSM.out
      have hj3 := HB3.out
      clear hwj
      have hce : (cur.extract j.toNat cur.size).size = cur.size - (i + 1) := by rw [hj3, ByteArray.size_extract]; omega
      have HS4 := blk_set HS3.out 0 (.string (cur.extract j.toNat cur.size))
      have hcs4 : (W3.setCell ⟨Bs, 0, none⟩ (.string (cur.extract j.toNat cur.size))).cell? ⟨Bs, 0, none⟩ = some (.string (cur.extract j.toNat cur.size)) := (blk_cell (HS4.trans rfl) 0).trans rfl
      refine ⟨⟨pre ++ [cur.extract 0 i], cur.extract j.toNat cur.size, d, by omega, by omega, by rw [hj3]; exact hxp, ⟨HJS.out _ _ _ HJ3.out⟩, ⟨HS4.trans rfl⟩, ⟨blk_far HP3.out (by show Bs + 1 ≠ Bs; omega) _⟩, ⟨blk_far HV3.out (by show Bs + 2 ≠ Bs; omega) _⟩⟩, ?_⟩
      rw [HM.out, strLen_is hcs4]
      omega
def third (part : ByteArray) : Int := if h : 2 < part.size then ((part[2]'h).toNat : Int) else 0
def stepOf (p : Int × Bool) (part : ByteArray) : Int × Bool :=
  if part.toList = [105] ∨ part.toList = [105, 61, 63, 49] then (p.1, true) else if part.toList = [105, 61, 63, 48] then (p.1, false) else
    if part.size = 3 ∧ (part.extract 0 2).toList = [117, 61] ∧ 48 ≤ third part ∧ third part ≤ 55 then (third part - 48, p.2) else p
def partStep (p : Int × Bool) (x : ByteArray) : Int × Bool := stepOf p ⟨(Go.Lib.trimB x.data.toList 32).toArray⟩
def readP (s : ByteArray) : Int × Bool := if 1024 < s.size then (3, false) else (piecesN 44 s.size s).foldl partStep (3, false)
theorem alloc5 (w : World) (a b c d e : Obj) : ((((((w.alloc a).alloc b).alloc c).alloc d).alloc e).heap[w.heap.size]? = some a ∧ (((((w.alloc a).alloc b).alloc c).alloc d).alloc e).heap[w.heap.size + 1]? = some b ∧ (((((w.alloc a).alloc b).alloc c).alloc d).alloc e).heap[w.heap.size + 1 + 1]? = some c ∧ (((((w.alloc a).alloc b).alloc c).alloc d).alloc e).heap[w.heap.size + 1 + 1 + 1]? = some d ∧ (((((w.alloc a).alloc b).alloc c).alloc d).alloc e).heap[w.heap.size + 1 + 1 + 2]? = some e) ∧ (((((w.alloc a).alloc b).alloc c).alloc d).alloc e).heap.size = w.heap.size + 5 := by
  have sz : ∀ (v : World) (o : Obj), (v.alloc o).heap.size = v.heap.size + 1 := fun v o => by simp
  have old : ∀ (v : World) (o : Obj) (k : Nat), k < v.heap.size → (v.alloc o).heap[k]? = v.heap[k]? := fun v o k h => Below.heap_alloc v o k h
  have new : ∀ (v : World) (o : Obj) (k : Nat), k = v.heap.size → (v.alloc o).heap[k]? = some o := fun v o k h => by rw [h]; exact heap_alloc_new v o
  have s1 := sz w a
  have s2 := sz (w.alloc a) b
  have s3 := sz ((w.alloc a).alloc b) c
  have s4 := sz (((w.alloc a).alloc b).alloc c) d
  have s5 := sz ((((w.alloc a).alloc b).alloc c).alloc d) e
  refine ⟨⟨?_, ?_, ?_, ?_, ?_⟩, by omega⟩
  · rw [old _ e _ (by omega), old _ d _ (by omega), old _ c _ (by omega), old _ b _ (by omega), new _ a _ rfl]
  · rw [old _ e _ (by omega), old _ d _ (by omega), old _ c _ (by omega), new _ b _ (by omega)]
  · rw [old _ e _ (by omega), old _ d _ (by omega), new _ c _ (by omega)]
  · rw [old _ e _ (by omega), new _ d _ (by omega)]
  · rw [new _ e _ (by omega)]
theorem pieces_size (c : UInt8) : ∀ (d : Nat) (s x : ByteArray), x ∈ piecesN c d s → x.size ≤ s.size
  | 0, s, x, h => by
    simp only [piecesN, List.mem_singleton] at h
    rw [h]
    exact Nat.le_refl _
  | d + 1, s, x, h => by
    have e : piecesN c (d + 1) s = if Go.Lib.indexByte s.data.toList c < 0 then [s] else s.extract 0 (Go.Lib.indexByte s.data.toList c).toNat :: piecesN c d (s.extract ((Go.Lib.indexByte s.data.toList c).toNat + 1) s.size) := rfl
    rw [e] at h
    split at h
    · rw [List.mem_singleton.1 h]
      exact Nat.le_refl _
    · rcases List.mem_cons.1 h with h | h
      · rw [h, ByteArray.size_extract]
        omega
      · have := pieces_size c d _ _ h
        rw [ByteArray.size_extract] at this
        omega
theorem ReadPriority_calls (s : ByteArray) (w : World) : Calls Tryd.prog 14 #[.string s] w fun e w' => e = .returned (.tuple #[.int .i64 (readP s).1, .bool (readP s).2]) ∧ Below w.heap.size w w' := by
  by_cases hs : 1024 < s.size
  · have e : readP s = (3, false) := by unfold readP; rw [if_pos hs]
    rw [e]
    have q1 : (1024 < (s.size : Int)) = True := eq_true (by omega)
    have q2 : decide (1024 < (s.size : Int)) = true := decide_eq_true (by omega)
    clear e
    go_enter Tryd.func14, Tryd.ntmps14
    go_wp2
    go_region
    all_goals go_wp2
    all_goals go_ret2
    all_goals exact ⟨by first | rfl | (simp; done) | (simp [*]; done), by repeat (first | exact Below.refl _ _ | apply below_alloc | apply pw_below_drewN | apply below_drew1)⟩
  · obtain ⟨r, hr⟩ : ∃ r, (piecesN 44 s.size s).foldl partStep (3, false) = r := ⟨_, rfl⟩
    have er : readP s = r := by unfold readP; rw [if_neg hs, hr]
    rw [er]
    clear er
    have HR := Aside0.mk hr
    clear hr
    have q1 : (1024 < (s.size : Int)) = False := eq_false (by omega)
    have q2 : decide (1024 < (s.size : Int)) = false := decide_eq_false (by omega)
    refine (callsIn_wide (n := 6)).1 ?_
    refine callsIn_of_wp_marks Tryd.func14 rfl trivial ?_
    simp only [Tryd.ntmps14, List.size_toArray, List.length_cons, List.length_nil, Nat.reduceAdd, Nat.reduceSub, Array.replicate_succ, Array.replicate_zero, List.push_toArray, List.append_toArray, List.nil_append, List.cons_append]
    gi_wp2_with (refine ⟨trivial, ?_⟩; gi_at_call 42; refine (callsIn_wide.2 (SplitSeq_made s ⟨#[44]⟩ _)).mono ?_; rintro e w1 ⟨rfl, rfl⟩)
    have hw5 : (((((w.alloc (Obj.cells #[Value.int IntKind.i64 3] 3)).alloc (Obj.cells #[Value.bool false] 4)).alloc (Obj.cells #[Value.string s] 9)).alloc (Obj.cells #[Value.string { data := #[44] }] 9)).alloc (Obj.cells #[Value.int IntKind.i64 0] 3)).heap.size = w.heap.size + 5 := (alloc5 w _ _ _ _ _).2
    have hb0 : Below w.heap.size w (((((w.alloc (Obj.cells #[Value.int IntKind.i64 3] 3)).alloc (Obj.cells #[Value.bool false] 4)).alloc (Obj.cells #[Value.string s] 9)).alloc (Obj.cells #[Value.string { data := #[44] }] 9)).alloc (Obj.cells #[Value.int IntKind.i64 0] 3)) := by
      repeat (first | exact Below.refl _ _ | apply below_alloc)
    have h0 : (((((w.alloc (Obj.cells #[Value.int IntKind.i64 3] 3)).alloc (Obj.cells #[Value.bool false] 4)).alloc (Obj.cells #[Value.string s] 9)).alloc (Obj.cells #[Value.string { data := #[44] }] 9)).alloc (Obj.cells #[Value.int IntKind.i64 0] 3)).heap[w.heap.size]? = some (.cells #[.int .i64 3] 3 (0, 0)) := (alloc5 w _ _ _ _ _).1.1
    have h1 : (((((w.alloc (Obj.cells #[Value.int IntKind.i64 3] 3)).alloc (Obj.cells #[Value.bool false] 4)).alloc (Obj.cells #[Value.string s] 9)).alloc (Obj.cells #[Value.string { data := #[44] }] 9)).alloc (Obj.cells #[Value.int IntKind.i64 0] 3)).heap[w.heap.size + 1]? = some (.cells #[.bool false] 4 (0, 0)) := (alloc5 w _ _ _ _ _).1.2.1
    have h2 : (((((w.alloc (Obj.cells #[Value.int IntKind.i64 3] 3)).alloc (Obj.cells #[Value.bool false] 4)).alloc (Obj.cells #[Value.string s] 9)).alloc (Obj.cells #[Value.string { data := #[44] }] 9)).alloc (Obj.cells #[Value.int IntKind.i64 0] 3)).heap[w.heap.size + 1 + 1]? = some (.cells #[.string s] 9 (0, 0)) := (alloc5 w _ _ _ _ _).1.2.2.1
    have h3 : (((((w.alloc (Obj.cells #[Value.int IntKind.i64 3] 3)).alloc (Obj.cells #[Value.bool false] 4)).alloc (Obj.cells #[Value.string s] 9)).alloc (Obj.cells #[Value.string { data := #[44] }] 9)).alloc (Obj.cells #[Value.int IntKind.i64 0] 3)).heap[w.heap.size + 1 + 1 + 1]? = some (.cells #[.string ⟨#[44]⟩] 9 (0, 0)) := (alloc5 w _ _ _ _ _).1.2.2.2.1
    have h4 : (((((w.alloc (Obj.cells #[Value.int IntKind.i64 3] 3)).alloc (Obj.cells #[Value.bool false] 4)).alloc (Obj.cells #[Value.string s] 9)).alloc (Obj.cells #[Value.string { data := #[44] }] 9)).alloc (Obj.cells #[Value.int IntKind.i64 0] 3)).heap[w.heap.size + 1 + 1 + 2]? = some (.cells #[.int .i64 0] 3 (0, 0)) := (alloc5 w _ _ _ _ _).1.2.2.2.2
    revert hw5 hb0 h0 h1 h2 h3 h4
    generalize (((((w.alloc (Obj.cells #[Value.int IntKind.i64 3] 3)).alloc (Obj.cells #[Value.bool false] 4)).alloc (Obj.cells #[Value.string s] 9)).alloc (Obj.cells #[Value.string { data := #[44] }] 9)).alloc (Obj.cells #[Value.int IntKind.i64 0] 3)) = W0
    intro hw5 hb0 h0 h1 h2 h3 h4
    refine range (n := 6) rfl (by decide) (gf := 83) (lb := #[.pointer (some ⟨w.heap.size + 1 + 1 + 1, 0, none⟩), .pointer (some ⟨w.heap.size + 1 + 1, 0, none⟩), .pointer (some ⟨w.heap.size + 1 + 1 + 2, 0, none⟩)]) rfl trivial (enters_of Tryd.func83 (by kernel_rfl) rfl)
      (split_seq 5 (by decide) s (by omega) W0 (w.heap.size + 1 + 1) h2 h3 h4) (fun _ => rfl) (Nat.le_refl _) (by omega)
      (fun pre W => W.heap[w.heap.size]? = some (.cells #[.int .i64 (pre.foldl partStep (3, false)).1] 3 (0, 0)) ∧ W.heap[w.heap.size + 1]? = some (.cells #[.bool (pre.foldl partStep (3, false)).2] 4 (0, 0)) ∧ Below w.heap.size w W ∧ w.heap.size + 5 ≤ W.heap.size)
      ?hI ?hIs ?hIz ⟨h0, h1, hb0, by omega⟩
      (fun x => { tmps := #[.string s, undef, .int .i64 0, .bool false, .pointer (some ⟨w.heap.size, 0, none⟩), .pointer (some ⟨w.heap.size + 1, 0, none⟩), .string x, .string s, .int .i64 s.size, .bool false, undef, undef, .string s, .func (.func 83) #[] #[.pointer (some ⟨w.heap.size + 1 + 1 + 1, 0, none⟩), .pointer (some ⟨w.heap.size + 1 + 1, 0, none⟩), .pointer (some ⟨w.heap.size + 1 + 1 + 2, 0, none⟩)], .string x, undef, undef, undef, undef, undef, undef, undef, undef, undef, undef, undef, undef, undef, undef, undef, undef, undef, undef, undef, undef, undef, undef, undef, undef, undef, undef, undef, undef, undef, undef, undef, undef, undef, undef, undef, undef, undef], defers := [] })
      ?assign ?body ?done
    case hI =>
      rintro pre A B ⟨c0, c1, cb, cs⟩ hAB hA
      exact ⟨(hAB.block _ (by omega)).trans c0, (hAB.block _ (by omega)).trans c1, cb.trans (hAB.mono (by omega)), Nat.le_trans cs hAB.size⟩
    case hIs =>
      rintro pre A v ⟨c0, c1, cb, cs⟩
      exact ⟨blk_far c0 (by show w.heap.size ≠ w.heap.size + 1 + 1; omega) _, blk_far c1 (by show w.heap.size + 1 ≠ w.heap.size + 1 + 1; omega) _, cb.setCell (p := ⟨w.heap.size + 1 + 1, 0, none⟩) (by show w.heap.size ≤ w.heap.size + 1 + 1; omega) _, by simpa [World.setCell] using cs⟩
    case hIz =>
      rintro pre A ⟨_, _, _, cs⟩
      omega
    case assign =>
      intro l x W K hK
      gi_wp2
      exact hK
    case done =>
      rintro W ⟨c0, c1, cb, cs⟩ hD
      rw [HR.out] at c0 c1
      have hc0 : W.cell? ⟨w.heap.size, 0, none⟩ = some (.int .i64 r.1) := (blk_cell c0 0).trans rfl
      have hc1 : W.cell? ⟨w.heap.size + 1, 0, none⟩ = some (.bool r.2) := (blk_cell c1 0).trans rfl
      gi_wp2
      gi_region
      all_goals gi_wp2
      all_goals refine ⟨by simp, .inl ⟨_, _, rfl, run_takeDeferred hD, ?_⟩⟩
      all_goals refine ⟨_, results_tmp2 rfl _ _ _, rfl, ?_⟩
      all_goals exact ⟨cb.os, cb.tape, cb.output, by simpa using cb.size, fun k hk => (World.putObj_heap_other (by omega)).trans (cb.block k hk)⟩
    case body =>
      rintro l pre x W ⟨c0, c1, cb, cs⟩ hpre
      have hxs : x.size ≤ s.size := pieces_size 44 _ _ _ (hpre.subset (by simp))
      rw [List.foldl_append]
      simp only [List.foldl_cons, List.foldl_nil]
      generalize pre.foldl partStep (3, false) = q at c0 c1 ⊢
      have C0 := Aside0.mk c0
      have C1 := Aside0.mk c1
      have CB := Aside0.mk cb
      have CS := Aside0.mk cs
      have hc0 : W.cell? ⟨w.heap.size, 0, none⟩ = some (.int .i64 q.1) := (blk_cell c0 0).trans rfl
      have hc1 : W.cell? ⟨w.heap.size + 1, 0, none⟩ = some (.bool q.2) := (blk_cell c1 0).trans rfl
      have hf0 := blk_frozen c0 0
      have hf1 := blk_frozen c1 0
      unfold partStep
      obtain ⟨part, hp⟩ : ∃ p, (⟨(Go.Lib.trimB x.data.toList 32).toArray⟩ : ByteArray) = p := ⟨_, rfl⟩
      rw [hp]
      obtain ⟨st, hst⟩ : ∃ st, stepOf q part = st := ⟨_, rfl⟩
      rw [hst]
      have HST := Aside0.mk hst
      clear hst
      have HPT := Aside0.mk hp
      have HXS : Aside0 (x.size ≤ 9223372036854775807) := ⟨by omega⟩
      clear hp hxs hpre c0 c1 cb cs h0 h1 h2 h3 h4 hw5 hb0 hs
      gi_wp2_with (refine ⟨trivial, ?_⟩; gi_at_call 43; refine (CallsIn.inRound l (callsIn_wide.2 (Tryd.strings_Trim_one x 32 (by decide) _ HXS.out))).mono ?_; rintro e w1 ⟨rfl, hw⟩; rw [HPT.out]; obtain ⟨m1, hm1⟩ : ∃ m, w1 = W.drewN m := (by rcases hw with h | h; exact ⟨0, h⟩; exact ⟨1, h⟩); clear hw; subst hm1)
      all_goals first
        | (have e : stepOf q part = (q.1, true) := if_pos (by first | exact Or.inl ‹part.toList = [105]› | simpa using ‹(part.toList == [105]) = true ∨ (part.toList == [105, 61, 63, 49]) = true›); have e2 := e.symm.trans HST.out; subst e2; exact ⟨((Held.refl _ W).drewN m1).set (p := ⟨w.heap.size + 1, 0, none⟩) (by show w.heap.size + 1 < w.heap.size + 1 + 1; omega) _, blk_far (blk_drewN C0.out m1) (by show w.heap.size ≠ w.heap.size + 1; omega) _, (blk_set (blk_drewN C1.out m1) 0 _).trans rfl, (pw_below_drewN CB.out m1).setCell (p := ⟨w.heap.size + 1, 0, none⟩) (by show w.heap.size ≤ w.heap.size + 1; omega) _, CS.out⟩)
        | (have e : stepOf q part = (q.1, false) := (if_neg (by first | (intro hh; rcases hh with hh | hh <;> simp_all; done) | (simp_all; done))).trans (if_pos (by simpa using ‹(part.toList == [105, 61, 63, 48]) = true›)); have e2 := e.symm.trans HST.out; subst e2; exact ⟨((Held.refl _ W).drewN m1).set (p := ⟨w.heap.size + 1, 0, none⟩) (by show w.heap.size + 1 < w.heap.size + 1 + 1; omega) _, blk_far (blk_drewN C0.out m1) (by show w.heap.size ≠ w.heap.size + 1; omega) _, (blk_set (blk_drewN C1.out m1) 0 _).trans rfl, (pw_below_drewN CB.out m1).setCell (p := ⟨w.heap.size + 1, 0, none⟩) (by show w.heap.size ≤ w.heap.size + 1; omega) _, CS.out⟩)
        | (have hz : (part.size : Int) = 3 := by assumption
           have ht : 2 < part.size := by omega
           have h3 : third part = ((part[2]'ht).toNat : Int) := dif_pos ht
           have e : stepOf q part = (((part[2]'ht).toNat : Int) - 48, q.2) := (if_neg (by first | (intro hh; rcases hh with hh | hh <;> simp_all; done) | (simp_all; done))).trans ((if_neg (by simp_all; done)).trans ((if_pos ⟨by omega, by assumption, by rw [h3]; assumption, by rw [h3]; assumption⟩).trans (by rw [h3])))
           have e2 := e.symm.trans HST.out
           subst e2
           exact ⟨((Held.refl _ W).drewN m1).set (p := ⟨w.heap.size, 0, none⟩) (by show w.heap.size < w.heap.size + 1 + 1; omega) _, (blk_set (blk_drewN C0.out m1) 0 _).trans rfl, blk_far (blk_drewN C1.out m1) (by show w.heap.size + 1 ≠ w.heap.size; omega) _, (pw_below_drewN CB.out m1).setCell (p := ⟨w.heap.size, 0, none⟩) (Nat.le_refl _) _, CS.out⟩)
        | (have e : stepOf q part = q := (if_neg (by first | (intro hh; rcases hh with hh | hh <;> simp_all; done) | (simp_all; done))).trans ((if_neg (by simp_all; done)).trans (if_neg (fun hh => by
             obtain ⟨g1, g2, g3, g4⟩ := hh
             have ht : 2 < part.size := by omega
             have h3 : third part = ((part[2]'ht).toNat : Int) := dif_pos ht
             rw [h3] at g3 g4
             first | omega | exact absurd g2 (by assumption))))
           have e2 := e.symm.trans HST.out
           subst e2
           exact ⟨(Held.refl _ W).drewN m1, blk_drewN C0.out m1, blk_drewN C1.out m1, pw_below_drewN CB.out m1, CS.out⟩)
end
def impl_ReadPriority.f (a0 : ByteArray) : Option (Int × Bool) := some (readP a0)
theorem impl_ReadPriority.calls (a0 : ByteArray) (r1 : Int) (r2 : Bool) (w : World) (h : impl_ReadPriority.f a0 = some (r1, r2)) :
    Calls Tryd.prog 14 #[.string a0] w fun e w' => e = .returned (.tuple #[.int .i64 r1, .bool r2]) ∧ Below w.heap.size w w' := by
  have e := Option.some.inj h
  have h1 : (readP a0).1 = r1 := by rw [e]
  have h2 : (readP a0).2 = r2 := by rw [e]
  subst h1 h2
  exact ReadPriority_calls a0 w

/-- A state of type 102 at block g of W; what its slices lead to came in by w0. -/
def IsS102 (w0 W : World) (g : Nat) (f0 : List Int) (f1 : Int) (f2 : Int) : Prop := ∃ A0 c0, W.heap[g]? = some (.cells #[.slice A0 f0.length c0, .int .i64 f1, .int .i64 f2] 102 (0, 0)) ∧ w0.heap.size ≤ g ∧ Kd.C (Kd.int .u8) w0 A0 f0.length f0
theorem IsS102.grown {w0 W : World} {g : Nat} {f0 : List Int} {f1 : Int} {f2 : Int} {W1 : World} {row : Option Nat} (h : IsS102 w0 W g f0 f1 f2) (hw : W.grownBy W1 row) (hne : some g ≠ row) : IsS102 w0 W1 g f0 f1 f2 := by
  obtain ⟨A0, c0, hb, hg, hr0⟩ := h
  exact ⟨A0, c0, blk_grown hb hw hne, hg, hr0⟩
theorem IsS102.own_neN {w0 W : World} {g : Nat} {f0 : List Int} {f1 : Int} {f2 : Int} {α : Type} {d : Kd α} {e : Nat} {base : Nat} {ok : Nat → Prop} {v : Value} {xs : List α} (h : IsS102 w0 W g f0 f1 f2) (ho : Kd.N d e W base ok v xs) (ht : e ≠ 102) : some g ≠ v.ownBlock := by
  obtain ⟨A0, c0, hb, hg, hr0⟩ := h
  exact Kd.N_ne ho hb ht
theorem IsS102.fresh {w0 W : World} {g : Nat} {f0 : List Int} {f1 : Int} {f2 : Int} (h : IsS102 w0 W g f0 f1 f2) : ∀ k, W.heap.size ≤ k → k ≠ g := by
  obtain ⟨A0, c0, hb, hg, hr0⟩ := h
  exact Kd.freshB hb
theorem IsS102.kept {w0 W : World} {g : Nat} {f0 : List Int} {f1 : Int} {f2 : Int} {W1 : World} {S : Nat → Prop} (h : IsS102 w0 W g f0 f1 f2) (hk : Kept W W1 S) (hne : ¬ S g) : IsS102 w0 W1 g f0 f1 f2 := by
  obtain ⟨A0, c0, hb, hg, hr0⟩ := h
  exact ⟨A0, c0, blk_kept hb hk hne, hg, hr0⟩
theorem IsS102.below {w0 W : World} {g : Nat} {f0 : List Int} {f1 : Int} {f2 : Int} {W1 : World} (h : IsS102 w0 W g f0 f1 f2) (hw : Below W.heap.size W W1) : IsS102 w0 W1 g f0 f1 f2 := h.grown (grown_of_below hw none) (by simp)
theorem IsS102.alloc {w0 W : World} {g : Nat} {f0 : List Int} {f1 : Int} {f2 : Int} (h : IsS102 w0 W g f0 f1 f2) (o : Obj) : IsS102 w0 (W.alloc o) g f0 f1 f2 := h.below (below_alloc (Below.refl _ _) o)
theorem IsS102.drewN {w0 W : World} {g : Nat} {f0 : List Int} {f1 : Int} {f2 : Int} (h : IsS102 w0 W g f0 f1 f2) (m : Nat) : IsS102 w0 (W.drewN m) g f0 f1 f2 := h
theorem IsS102.drew {w0 W : World} {g : Nat} {f0 : List Int} {f1 : Int} {f2 : Int} (h : IsS102 w0 W g f0 f1 f2) : IsS102 w0 W.drew g f0 f1 f2 := h
theorem IsS102.at_ {w0 W : World} {g : Nat} {f0 : List Int} {f1 : Int} {f2 : Int} {w' : World} {m : Nat} (hq : W.drewN m = w') (h : IsS102 w0 W g f0 f1 f2) : IsS102 w0 w' g f0 f1 f2 := by subst hq; exact IsS102.drewN h m
theorem IsS102.apart {w0 W : World} {g : Nat} {f0 : List Int} {f1 : Int} {f2 : Int} {α : Type} {d : Kd α} {e : Nat} {base : Nat} {ok : Nat → Prop} {v : Value} {xs : List α} (h : IsS102 w0 W g f0 f1 f2) (ho : d.R e W base ok v xs) (ht : ∀ q, q ∈ e :: d.E → q ≠ 102) : d.R e W base (fun k => ok k ∧ k ≠ g) v xs := by
  obtain ⟨A0, c0, hb, hg, hr0⟩ := h
  exact Kd.R_types ho hb ht
theorem IsS102.own_ne {w0 W : World} {g : Nat} {f0 : List Int} {f1 : Int} {f2 : Int} {α : Type} {d : Kd α} {e : Nat} {base : Nat} {ok : Nat → Prop} {v : Value} {xs : List α} (h : IsS102 w0 W g f0 f1 f2) (ho : d.R e W base ok v xs) (ht : e ≠ 102) : some g ≠ v.ownBlock := by
  obtain ⟨A0, c0, hb, hg, hr0⟩ := h
  exact Kd.R_ne ho hb ht
theorem IsS102.apartQ {w0 W : World} {g : Nat} {f0 : List Int} {f1 : Int} {f2 : Int} {α : Type} {d : Kd α} {e : Nat} {base : Nat} {ok : Nat → Prop} {v : Value} {xs : List α} (h : IsS102 w0 W g f0 f1 f2) (ho : d.Q e W base ok v xs) (ht : ∀ q, q ∈ e :: d.E → q ≠ 102) : d.Q e W base (fun k => ok k ∧ k ≠ g) v xs := by
  obtain ⟨A0, c0, hb, hg, hr0⟩ := h
  exact Kd.Q_types ho hb ht
theorem IsS102.own_neQ {w0 W : World} {g : Nat} {f0 : List Int} {f1 : Int} {f2 : Int} {α : Type} {d : Kd α} {e : Nat} {base : Nat} {ok : Nat → Prop} {v : Value} {xs : List α} (h : IsS102 w0 W g f0 f1 f2) (ho : d.Q e W base ok v xs) (ht : e ≠ 102) : some g ≠ v.ownBlock := by
  obtain ⟨A0, c0, hb, hg, hr0⟩ := h
  exact Kd.Q_ne ho hb ht
theorem IsS102.apartS {w0 W : World} {g : Nat} {f0 : List Int} {f1 : Int} {f2 : Int} {α : Type} {d : Kd α} {e : Nat} {base : Nat} {ok : Nat → Prop} {v : Value} {xs : List α} (h : IsS102 w0 W g f0 f1 f2) (ho : d.S e W base ok v xs) (ht : ∀ q, q ∈ e :: d.E → q ≠ 102) : d.S e W base (fun k => ok k ∧ k ≠ g) v xs := by
  obtain ⟨A0, c0, hb, hg, hr0⟩ := h
  exact Kd.S_types ho hb ht
theorem IsS102.own_neS {w0 W : World} {g : Nat} {f0 : List Int} {f1 : Int} {f2 : Int} {α : Type} {d : Kd α} {e : Nat} {base : Nat} {ok : Nat → Prop} {v : Value} {xs : List α} (h : IsS102 w0 W g f0 f1 f2) (ho : d.S e W base ok v xs) (ht : e ≠ 102) : some g ≠ v.ownBlock := by
  obtain ⟨A0, c0, hb, hg, hr0⟩ := h
  exact Kd.S_ne ho hb ht
theorem IsS102.lt {w0 W : World} {g : Nat} {f0 : List Int} {f1 : Int} {f2 : Int} (h : IsS102 w0 W g f0 f1 f2) : g < W.heap.size := by
  obtain ⟨A0, c0, hb, hg, hr0⟩ := h
  exact blk_lt hb
theorem IsS102.ge {w0 W : World} {g : Nat} {f0 : List Int} {f1 : Int} {f2 : Int} (h : IsS102 w0 W g f0 f1 f2) : w0.heap.size ≤ g := by
  obtain ⟨A0, c0, hb, hg, hr0⟩ := h
  exact hg
theorem IsS102.ne_blk {w0 W : World} {g : Nat} {f0 : List Int} {f1 : Int} {f2 : Int} {a : Nat} {cs : Array Value} {t : TypeId} {fr : Nat × Nat} (h : IsS102 w0 W g f0 f1 f2) (hb2 : W.heap[a]? = some (.cells cs t fr)) (ht : t ≠ 102) : g ≠ a := by
  obtain ⟨A0, c0, hb, hg, hr0⟩ := h
  rintro rfl
  rw [hb] at hb2
  injection hb2 with hb2
  injection hb2 with _ ht2
  exact ht ht2.symm
theorem IsS102.far {w0 W : World} {g : Nat} {f0 : List Int} {f1 : Int} {f2 : Int} {p : Addr} (h : IsS102 w0 W g f0 f1 f2) (hne : g ≠ p.block) (u : Value) : IsS102 w0 (W.setCell p u) g f0 f1 f2 := by
  obtain ⟨A0, c0, hb, hg, hr0⟩ := h
  exact ⟨A0, c0, blk_far hb hne u, hg, hr0⟩
theorem cellS102_0 {W : World} {g : Nat} {A0 : Option Addr} {c0 : Nat} {f0 : List Int} {f1 : Int} {f2 : Int} (h : W.heap[g]? = some (.cells #[.slice A0 f0.length c0, .int .i64 f1, .int .i64 f2] 102 (0, 0))) : W.cell? ⟨g, 0, none⟩ = some (.slice A0 f0.length c0) := (blk_cell h 0).trans rfl
theorem cellS102_1 {W : World} {g : Nat} {A0 : Option Addr} {c0 : Nat} {f0 : List Int} {f1 : Int} {f2 : Int} (h : W.heap[g]? = some (.cells #[.slice A0 f0.length c0, .int .i64 f1, .int .i64 f2] 102 (0, 0))) : W.cell? ⟨g, 1, none⟩ = some (.int .i64 f1) := (blk_cell h 1).trans rfl
theorem IsS102.set_1 {w0 W : World} {g : Nat} {f0 : List Int} {f1 : Int} {f2 : Int} (h : IsS102 w0 W g f0 f1 f2) (x : Int) : IsS102 w0 (W.setCell ⟨g, 1, none⟩ (.int .i64 x)) g f0 x f2 := by
  obtain ⟨A0, c0, hb, hg, hr0⟩ := h
  exact ⟨A0, c0, by simpa using blk_set hb 1 (.int .i64 x), hg, hr0⟩
theorem cellS102_2 {W : World} {g : Nat} {A0 : Option Addr} {c0 : Nat} {f0 : List Int} {f1 : Int} {f2 : Int} (h : W.heap[g]? = some (.cells #[.slice A0 f0.length c0, .int .i64 f1, .int .i64 f2] 102 (0, 0))) : W.cell? ⟨g, 2, none⟩ = some (.int .i64 f2) := (blk_cell h 2).trans rfl
theorem IsS102.set_2 {w0 W : World} {g : Nat} {f0 : List Int} {f1 : Int} {f2 : Int} (h : IsS102 w0 W g f0 f1 f2) (x : Int) : IsS102 w0 (W.setCell ⟨g, 2, none⟩ (.int .i64 x)) g f0 f1 x := by
  obtain ⟨A0, c0, hb, hg, hr0⟩ := h
  exact ⟨A0, c0, by simpa using blk_set hb 2 (.int .i64 x), hg, hr0⟩
theorem IsS102.new (w0 W : World) (A0 : Option Addr) (c0 : Nat) (f0 : List Int) (f1 : Int) (f2 : Int) (hB : Below w0.heap.size w0 W) (hr0 : Kd.C (Kd.int .u8) w0 A0 f0.length f0) : IsS102 w0 (W.alloc (.cells #[.slice A0 f0.length c0, .int .i64 f1, .int .i64 f2] 102)) W.heap.size f0 f1 f2 := ⟨A0, c0, by simpa using heap_alloc_new W _, hB.size, hr0⟩

/-! ### spec_l01Source: function 44 -/
def spec_l01Source.f (l0 : List Int) : Option (List Int × Int × Int) := some (l0, 0, (l0.length : Int) % 1000)
set_option maxHeartbeats 8000000 in
set_option maxRecDepth 100000 in
theorem spec_l01Source.calls (A0 : Option Addr) (c0 : Nat) (l0 : List Int) (r1 : List Int) (r2 : Int) (r3 : Int) (w0 w : World) (hB : Below w0.heap.size w0 w) (hr0 : Kd.C (Kd.int .u8) w0 A0 l0.length l0) (hc0 : l0.length ≤ c0) (h : spec_l01Source.f l0 = some (r1, r2, r3)) :
    Calls Tryd.prog 44 #[.slice A0 l0.length c0] w fun e w' => ∃ g_ : Nat, e = .returned (.pointer (some ⟨g_, 0, none⟩)) ∧ IsS102 w0 w' g_ r1 r2 r3 ∧ Below w0.heap.size w0 w' ∧ Below w.heap.size w w' := by
  have hu102 := Tryd.underlying102
  have HR0 := Aside0.mk hr0
  have HC0 := Aside0.mk hc0
  clear hr0 hc0
  have HBW := Aside0.mk (Below.refl w.heap.size w)
  have HW0 := Aside0.mk hB.size
  have HB := Aside0.mk hB
  clear hB
  have H : (some (l0, 0, (l0.length : Int) % 1000)) = some (r1, r2, r3) := h
  clear h
  simp only [Option.some.injEq, Prod.mk.injEq] at H
  obtain ⟨rfl, rfl, rfl⟩ := H
  go_enter Tryd.func44, Tryd.ntmps44
  go_wp2_with (first | ((with_reducible refine gate_dst (N := 8) rfl ?_); refine box_event ?hg (N := 8) ?hd (cs := #[.slice A0 l0.length c0, .int .i64 0, .int .i64 ((l0.length : Int) % 1000)]) (t := 102) ?hr ?_; (case hd => rfl); (case hg => rfl); (case hr => first | (go_simp; done) | (go_simp; rfl)); intro gb102 hg w2 hbox hb; have n0_ := Aside0.mk (below_step HBW.out hb); have n1_ := Aside0.mk (below_step (by repeat (first | (with_reducible first | exact HB.out | apply below_alloc | apply pw_below_drewN | apply below_drew1) | exact HB.out)) hb); have n2_ := Aside0.mk (hbox); have n3_ := Aside0.mk ((by rw [hg]; exact (below_size (by repeat (first | (with_reducible first | exact HBW.out | apply below_alloc | apply pw_below_drewN | apply below_drew1) | exact HBW.out))) : w.heap.size ≤ gb102)); have n4_ := Aside0.mk ((Nat.le_trans HW0.out (by rw [hg]; exact (below_size (by repeat (first | (with_reducible first | exact HBW.out | apply below_alloc | apply pw_below_drewN | apply below_drew1) | exact HBW.out))) : w.heap.size ≤ gb102) : w0.heap.size ≤ gb102)); clear HBW; clear HB; have HBW := n0_; have HB := n1_; have BK102 := n2_; have GW102 := n3_; have GE102 := n4_; clear n0_ n1_ n2_ n3_ n4_; clear hb hbox hg))
  go_ret
  exact ⟨_, rfl, (show IsS102 w0 _ gb102 l0 0 ((l0.length : Int) % 1000) from ⟨_, _, by (with_reducible repeat (first | refine blk_drewN ?_ _ | refine blk_drew ?_ | refine blk_alloc ?_ _)); exact BK102.out, GE102.out, HR0.out⟩), by repeat (first | (with_reducible first | exact HB.out | apply below_alloc | apply pw_below_drewN | apply below_drew1 | refine below_set ?_ GE102.out) | exact HB.out), by repeat (first | (with_reducible first | exact HBW.out | apply below_alloc | apply pw_below_drewN | apply below_drew1 | refine below_set ?_ GW102.out) | exact HBW.out)⟩

/-! ### spec_l01Src_byte: function 71 -/
def spec_l01Src_byte.f (s0_0 : List Int) (s0_1 : Int) (s0_2 : Int) : Option (Int × Int × Int) :=
  if 0 ≤ s0_1 ∧ s0_1 < 1000000000000 ∧ 0 ≤ s0_2 ∧ s0_2 < 2147483648 ∧ s0_0.length < 1000000000000 then
    (if s0_1 < (s0_0.length : Int) then (if 0 ≤ rd s0_0 s0_1 ∧ rd s0_0 s0_1 ≤ 255 then some (rd s0_0 s0_1, s0_1 + 1, (s0_2 * 31 + rd s0_0 s0_1 + 7) % 2147483648) else none)
    else if 4000 + 4 * (s0_0.length : Int) < s0_1 + 1 then some (0, s0_1 + 1, s0_2)
    else some ((s0_2 * 1103515245 + 12345) % 2147483648 / 65536 % 256, s0_1 + 1, (s0_2 * 1103515245 + 12345) % 2147483648))
  else none
set_option maxHeartbeats 8000000 in
set_option maxRecDepth 100000 in
theorem spec_l01Src_byte.calls (g : Nat) (s0_0 : List Int) (s0_1 : Int) (s0_2 : Int) (r1 : Int) (r2 : Int) (r3 : Int) (w0 w : World) (hI : IsS102 w0 w g s0_0 s0_1 s0_2) (hB : Below w0.heap.size w0 w) (h : spec_l01Src_byte.f s0_0 s0_1 s0_2 = some (r1, r2, r3)) :
    Calls Tryd.prog 71 #[.pointer (some ⟨g, 0, none⟩)] w fun e w' => e = .returned (.int .i64 r1) ∧ IsS102 w0 w' g s0_0 r2 r3 ∧ Below w0.heap.size w0 w' ∧ KeepBut w w' g none := by
  unfold spec_l01Src_byte.f at h
  by_cases hb : 0 ≤ s0_1 ∧ s0_1 < 1000000000000 ∧ 0 ≤ s0_2 ∧ s0_2 < 2147483648 ∧ s0_0.length < 1000000000000
  · rw [if_pos hb] at h
    obtain ⟨b1, b2, b3, b4, b5⟩ := hb
    obtain ⟨A0, c0, HG, hge, HC⟩ := hI
    have hc0 := cellS102_0 HG
    have hc1 := cellS102_1 HG
    have hc2 := cellS102_2 HG
    have hf1 := blk_frozen HG 1
    have hf2 := blk_frozen HG 2
    have HG' := Aside0.mk HG
    clear HG
    have HCw := Aside0.mk (Kd.C_below HC hB)
    have HC' := Aside0.mk HC
    clear HC
    have HB := Aside0.mk hB
    clear hB
    by_cases h1 : s0_1 < (s0_0.length : Int)
    · rw [if_pos h1] at h
      by_cases h2 : 0 ≤ rd s0_0 s0_1 ∧ rd s0_0 s0_1 ≤ 255
      · rw [if_pos h2] at h
        simp only [Option.some.injEq, Prod.mk.injEq] at h
        have H := Aside0.mk h
        clear h
        obtain ⟨h3, h4⟩ := h2
        obtain ⟨ad, ea, hx⟩ := Kd.at_int HCw.out s0_1 b1 h1
        have h1b : decide (s0_1 + 1 ≤ (s0_0.length : Int)) = true := decide_eq_true (by omega)
        subst ea
        go_enter Tryd.func71, Tryd.ntmps71
        go_wp2
        go_quiet (fail)
        go_wp2
        obtain ⟨W2, hW2⟩ : ∃ W2 : World, W2 = (((w.setCell ⟨g, 1, none⟩ (.int .i64 (s0_1 + 1))).drewN nq).drew) := ⟨_, rfl⟩
        have HB2 : Aside0 (Below w0.heap.size w0 W2) := ⟨by rw [hW2]; exact below_drew1 (pw_below_drewN (below_set HB.out hge) _)⟩
        have HG2 : Aside0 (W2.heap[g]? = some (.cells #[.slice (some ad) s0_0.length c0, .int .i64 (s0_1 + 1), .int .i64 s0_2] 102 (0, 0))) := ⟨by rw [hW2]; exact blk_drew (blk_drewN (blk_put HG'.out 1 _ rfl) _)⟩
        have HK2 : Aside0 (KeepBut w W2 g none) := ⟨by rw [hW2]; exact (KeepBut.refl w g none).set_ 1 _⟩
        refine wp_region_still_tail 23 (by kernel_rfl) (by kernel_rfl) ?_
        change wpStill _ _ (((w.setCell ⟨g, 1, none⟩ (.int .i64 (s0_1 + 1))).drewN nq).drew) (fun a' => wpList _ _ _ _ a' (((w.setCell ⟨g, 1, none⟩ (.int .i64 (s0_1 + 1))).drewN nq).drew)) _ _
        rw [← hW2]
        clear hW2 hc0 hc1 hc2 hf1 hf2 hx
        simp only [List.take_succ_cons, List.take_zero, List.drop_succ_cons, List.drop_zero]
        have hc0 := cellS102_0 HG2.out
        have hc1 := cellS102_1 HG2.out
        have hc2 := cellS102_2 HG2.out
        have hf2 := blk_frozen HG2.out 2
        obtain ⟨ad', ea, hx⟩ := Kd.at_int (Kd.C_below HC'.out HB2.out) s0_1 b1 h1
        cases ea
        have e0 : IntKind.i64.wrap s0_1 = s0_1 := IntWalk.i64_in _ (by omega)
        have e1 : IntKind.i64.wrap (s0_2 * 31) = s0_2 * 31 := IntWalk.i64_in _ (by omega)
        have e2 : IntKind.i64.wrap (s0_2 * 31 + rd s0_0 s0_1) = s0_2 * 31 + rd s0_0 s0_1 := IntWalk.i64_in _ (by omega)
        have e3 : IntKind.i64.wrap (s0_2 * 31 + rd s0_0 s0_1 + 7) = s0_2 * 31 + rd s0_0 s0_1 + 7 := IntWalk.i64_in _ (by omega)
        have e4 : IntKind.i64.wrap (rd s0_0 s0_1) = rd s0_0 s0_1 := IntWalk.i64_in _ (by omega)
        have e5 : (s0_2 * 31 + rd s0_0 s0_1 + 7).tmod 2147483648 = (s0_2 * 31 + rd s0_0 s0_1 + 7) % 2147483648 := Int.tmod_eq_emod_of_nonneg (by omega)
        repeat still_step
        refine wpStill_nil ?_
        clear e1 e2 e3 e5
        have HX := Aside0.mk (show 0 ≤ (s0_2 * 31 + rd s0_0 s0_1 + 7) % 2147483648 ∧ (s0_2 * 31 + rd s0_0 s0_1 + 7) % 2147483648 < 2147483648 from by omega)
        generalize (s0_2 * 31 + rd s0_0 s0_1 + 7) % 2147483648 = z at *
        go_wp2
        obtain ⟨W3, hW3⟩ : ∃ W3 : World, W3 = W2.setCell ⟨g, 2, none⟩ (.int .i64 z) := ⟨_, rfl⟩
        have HB3 : Aside0 (Below w0.heap.size w0 W3) := ⟨by rw [hW3]; exact below_set HB2.out hge⟩
        have HG3 : Aside0 (W3.heap[g]? = some (.cells #[.slice (some ad) s0_0.length c0, .int .i64 (s0_1 + 1), .int .i64 z] 102 (0, 0))) := ⟨by rw [hW3]; exact blk_put HG2.out 2 _ rfl⟩
        have HK3 : Aside0 (KeepBut w W3 g none) := ⟨by rw [hW3]; exact HK2.out.set_ 2 _⟩
        rw [← hW3]
        clear hW3 hc0 hc1 hc2 hf2 hx
        have hc0 := cellS102_0 HG3.out
        have hc1 := cellS102_1 HG3.out
        obtain ⟨ad', ea, hx⟩ := Kd.at_int (Kd.C_below HC'.out HB3.out) s0_1 b1 h1
        cases ea
        go_quiet (fail)
        go_wp2
        go_ret
        obtain ⟨rfl, rfl, rfl⟩ := H.out
        exact ⟨rfl, ⟨some ad, c0, HG3.out, hge, HC'.out⟩, pw_below_drewN HB3.out _, HK3.out⟩
      · rw [if_neg h2] at h; exact absurd h (by simp)
    · rw [if_neg h1] at h
      have h1b : decide (s0_1 + 1 ≤ (s0_0.length : Int)) = false := decide_eq_false (by omega)
      by_cases h2 : 4000 + 4 * (s0_0.length : Int) < s0_1 + 1
      · rw [if_pos h2] at h
        simp only [Option.some.injEq, Prod.mk.injEq] at h
        have H := Aside0.mk h
        clear h
        have h2b : decide (4000 + 4 * (s0_0.length : Int) < s0_1 + 1) = true := decide_eq_true h2
        go_enter Tryd.func71, Tryd.ntmps71
        go_wp2
        go_quiet (fail)
        go_wp2
        go_quiet (fail)
        go_wp2
        go_ret
        obtain ⟨rfl, rfl, rfl⟩ := H.out
        exact ⟨rfl, ⟨A0, c0, blk_drewN (blk_drewN (blk_put HG'.out 1 _ rfl) _) _, hge, HC'.out⟩, pw_below_drewN (pw_below_drewN (below_set HB.out hge) _) _, (KeepBut.refl w g none).set_ 1 _⟩
      · rw [if_neg h2] at h
        simp only [Option.some.injEq, Prod.mk.injEq] at h
        have H := Aside0.mk h
        clear h
        have h2b : decide (4000 + 4 * (s0_0.length : Int) < s0_1 + 1) = false := decide_eq_false h2
        have hm : s0_2 * 1103515245 ≤ 2369780942852710400 := by omega
        go_enter Tryd.func71, Tryd.ntmps71
        go_wp2
        go_quiet (fail)
        go_wp2
        go_quiet (fail)
        go_wp2
        go_ret
        obtain ⟨rfl, rfl, rfl⟩ := H.out
        exact ⟨rfl, ⟨A0, c0, blk_put (blk_drewN (blk_put HG'.out 1 _ rfl) _) 2 _ rfl, hge, HC'.out⟩, below_set (pw_below_drewN (below_set HB.out hge) _) hge, ((KeepBut.refl w g none).set_ 1 _).set_ 2 _⟩
  · rw [if_neg hb] at h; exact absurd h (by simp)

/-! ### spec_l01Src_next: function 45 -/
def spec_l01Src_next.f (s0_0 : List Int) (s0_1 : Int) (s0_2 : Int) (a1 : Int) : Option (Int × Int × Int) := if a1 ≤ 1 then (some (0, s0_1, s0_2)) else (if a1 ≤ 256 then ((spec_l01Src_byte.f s0_0 s0_1 s0_2).bind fun bt103 => (if a1 = 0 then (none) else (some (Int.tmod bt103.1 a1, bt103.2.1, bt103.2.2)))) else ((spec_l01Src_byte.f s0_0 s0_1 s0_2).bind fun bt106 => ((spec_l01Src_byte.f s0_0 bt106.2.1 bt106.2.2).bind fun bt109 => ((spec_l01Src_byte.f s0_0 bt109.2.1 bt109.2.2).bind fun bt112 => (if a1 = 0 then (none) else (some (Int.tmod (wrap64 ((wrap64 ((wrap64 (bt106.1 * 65536)) + (wrap64 (bt109.1 * 256)))) + bt112.1)) a1, bt112.2.1, bt112.2.2)))))))
set_option maxHeartbeats 8000000 in
set_option maxRecDepth 100000 in
theorem spec_l01Src_next.calls (g : Nat) (s0_0 : List Int) (s0_1 : Int) (s0_2 : Int) (a1 : Int) (r1 : Int) (r2 : Int) (r3 : Int) (w0 w : World) (hI : IsS102 w0 w g s0_0 s0_1 s0_2) (hB : Below w0.heap.size w0 w) (h : spec_l01Src_next.f s0_0 s0_1 s0_2 a1 = some (r1, r2, r3)) :
    Calls Tryd.prog 45 #[.pointer (some ⟨g, 0, none⟩), .int .i64 a1] w fun e w' => e = .returned (.int .i64 r1) ∧ IsS102 w0 w' g s0_0 r2 r3 ∧ Below w0.heap.size w0 w' ∧ KeepBut w w' g none := by
  have HI0 := Aside0.mk hI
  have HK := Aside0.mk (KeepBut.refl w g none)
  have HL := Aside0.mk hB.size
  clear hI
  have HW0 := Aside0.mk hB.size
  have HB := Aside0.mk hB
  clear hB
  have H : (if a1 ≤ 1 then (some (0, s0_1, s0_2)) else (if a1 ≤ 256 then ((spec_l01Src_byte.f s0_0 s0_1 s0_2).bind fun bt103 => (if a1 = 0 then (none) else (some (Int.tmod bt103.1 a1, bt103.2.1, bt103.2.2)))) else ((spec_l01Src_byte.f s0_0 s0_1 s0_2).bind fun bt106 => ((spec_l01Src_byte.f s0_0 bt106.2.1 bt106.2.2).bind fun bt109 => ((spec_l01Src_byte.f s0_0 bt109.2.1 bt109.2.2).bind fun bt112 => (if a1 = 0 then (none) else (some (Int.tmod (wrap64 ((wrap64 ((wrap64 (bt106.1 * 65536)) + (wrap64 (bt109.1 * 256)))) + bt112.1)) a1, bt112.2.1, bt112.2.2)))))))) = some (r1, r2, r3) := h
  clear h
  by_cases c3 : a1 ≤ 1
  · rw [if_pos c3] at H
    have c3b0 : decide (a1 ≤ 1) = true := decide_eq_true c3
    clear c3
    simp only [Option.some.injEq, Prod.mk.injEq] at H
    obtain ⟨rfl, rfl, rfl⟩ := H
    go_enter Tryd.func45, Tryd.ntmps45
    go_wp2
    go_ret
    exact ⟨by first | rfl | (simp [errW_none, errW_some] <;> rfl) | (simp [*, errW_none, errW_some] <;> rfl), by repeat (first | (with_reducible first | exact HI0.out | apply IsS102.alloc | apply IsS102.drewN | apply IsS102.drew | apply IsS102.set_1 | apply IsS102.set_2) | exact HI0.out), by repeat (first | (with_reducible first | exact HB.out | apply below_alloc | apply pw_below_drewN | apply below_drew1 | refine below_set ?_ (IsS102.ge HI0.out)) | exact HB.out), by repeat (first | (with_reducible first | exact HK.out | apply KeepBut.set_ | apply keep_drewN | apply keep_drew | apply keep_alloc) | exact HK.out)⟩
  · rw [if_neg c3] at H
    have c3b0 : decide (a1 ≤ 1) = false := decide_eq_false c3
    clear c3
    by_cases c4 : a1 ≤ 256
    · rw [if_pos c4] at H
      have c4b0 : decide (a1 ≤ 256) = true := decide_eq_true c4
      clear c4
      replace H := Option.bind_eq_some_iff.mp H
      obtain ⟨⟨t103, t104, t105⟩, A50, H⟩ := H
      replace H : (if a1 = 0 then (none) else (some (Int.tmod t103 a1, t104, t105))) = some (r1, r2, r3) := H
      have A5 := Aside0.mk A50
      clear A50
      by_cases c6 : a1 = 0
      · rw [if_pos c6] at H
        exact absurd H (by simp)
      · rw [if_neg c6] at H
        have c6b0 : (a1 == 0) = false := beq_eq_false_iff_ne.mpr c6
        have c6b1 : (a1 != 0) = true := bne_iff_ne.mpr c6
        simp only [Option.some.injEq, Prod.mk.injEq] at H
        obtain ⟨rfl, rfl, rfl⟩ := H
        go_enter Tryd.func45, Tryd.ntmps45
        go_wp2_with (first | ((with_reducible refine gate_callee (f := 71) rfl ?_); refine goesL_ (some 10) rfl rfl Tryd.func71 (by kernel_rfl) rfl #[.pointer (some ⟨g, 0, none⟩)] rfl (by (try simp only [List.map_toArray, List.map_cons, List.map_nil]); first | done | rfl | (simp only [List.length_drop, List.length_take]; rfl)) ?_; (with_reducible refine (spec_l01Src_byte.calls g s0_0 s0_1 s0_2 t103 t104 t105 w0 _ ?side1 ?side2 A5.out).mono ?_); (case side1 => repeat (first | (with_reducible first | exact HI0.out | apply IsS102.alloc | apply IsS102.drewN | apply IsS102.drew | apply IsS102.set_1 | apply IsS102.set_2) | exact HI0.out)); (case side2 => repeat (first | (with_reducible first | exact HB.out | apply below_alloc | apply pw_below_drewN | apply below_drew1 | refine below_set ?_ (IsS102.ge HI0.out)) | exact HB.out)); rintro e w7 ⟨rfl, hi, hb, hk⟩; refine ⟨_, rfl, ?_⟩; have n0_ := Aside0.mk (KeepBut.trans (by repeat (first | (with_reducible first | exact HK.out | apply KeepBut.set_ | apply keep_drewN | apply keep_drew | apply keep_alloc) | exact HK.out)) hk (.inl rfl)); have n1_ := Aside0.mk (hb); have n2_ := Aside0.mk (hi); clear HK; clear HB; clear HI0; have HK := n0_; have HB := n1_; have HI0 := n2_; clear n0_ n1_ n2_; (try clear hb); (try clear hb2); (try clear hk); (try clear hi)))
        go_ret
        exact ⟨by first | rfl | (simp [errW_none, errW_some] <;> rfl) | (simp [*, errW_none, errW_some] <;> rfl), by repeat (first | (with_reducible first | exact HI0.out | apply IsS102.alloc | apply IsS102.drewN | apply IsS102.drew | apply IsS102.set_1 | apply IsS102.set_2) | exact HI0.out), by repeat (first | (with_reducible first | exact HB.out | apply below_alloc | apply pw_below_drewN | apply below_drew1 | refine below_set ?_ (IsS102.ge HI0.out)) | exact HB.out), by repeat (first | (with_reducible first | exact HK.out | apply KeepBut.set_ | apply keep_drewN | apply keep_drew | apply keep_alloc) | exact HK.out)⟩
    · rw [if_neg c4] at H
      have c4b0 : decide (a1 ≤ 256) = false := decide_eq_false c4
      clear c4
      replace H := Option.bind_eq_some_iff.mp H
      obtain ⟨⟨t106, t107, t108⟩, A80, H⟩ := H
      replace H : ((spec_l01Src_byte.f s0_0 t107 t108).bind fun bt109 => ((spec_l01Src_byte.f s0_0 bt109.2.1 bt109.2.2).bind fun bt112 => (if a1 = 0 then (none) else (some (Int.tmod (wrap64 ((wrap64 ((wrap64 (t106 * 65536)) + (wrap64 (bt109.1 * 256)))) + bt112.1)) a1, bt112.2.1, bt112.2.2))))) = some (r1, r2, r3) := H
      have A8 := Aside0.mk A80
      clear A80
      replace H := Option.bind_eq_some_iff.mp H
      obtain ⟨⟨t109, t110, t111⟩, A90, H⟩ := H
      replace H : ((spec_l01Src_byte.f s0_0 t110 t111).bind fun bt112 => (if a1 = 0 then (none) else (some (Int.tmod (wrap64 ((wrap64 ((wrap64 (t106 * 65536)) + (wrap64 (t109 * 256)))) + bt112.1)) a1, bt112.2.1, bt112.2.2)))) = some (r1, r2, r3) := H
      have A9 := Aside0.mk A90
      clear A90
      replace H := Option.bind_eq_some_iff.mp H
      obtain ⟨⟨t112, t113, t114⟩, A100, H⟩ := H
      replace H : (if a1 = 0 then (none) else (some (Int.tmod (wrap64 ((wrap64 ((wrap64 (t106 * 65536)) + (wrap64 (t109 * 256)))) + t112)) a1, t113, t114))) = some (r1, r2, r3) := H
      have A10 := Aside0.mk A100
      clear A100
      by_cases c11 : a1 = 0
      · rw [if_pos c11] at H
        exact absurd H (by simp)
      · rw [if_neg c11] at H
        have c11b0 : (a1 == 0) = false := beq_eq_false_iff_ne.mpr c11
        have c11b1 : (a1 != 0) = true := bne_iff_ne.mpr c11
        simp only [Option.some.injEq, Prod.mk.injEq] at H
        obtain ⟨rfl, rfl, rfl⟩ := H
        go_enter Tryd.func45, Tryd.ntmps45
        go_wp2_with (first | ((with_reducible refine gate_callee (f := 71) rfl ?_); refine goesL_ (some 14) rfl rfl Tryd.func71 (by kernel_rfl) rfl #[.pointer (some ⟨g, 0, none⟩)] rfl (by (try simp only [List.map_toArray, List.map_cons, List.map_nil]); first | done | rfl | (simp only [List.length_drop, List.length_take]; rfl)) ?_; (with_reducible refine (spec_l01Src_byte.calls g s0_0 s0_1 s0_2 t106 t107 t108 w0 _ ?side1 ?side2 A8.out).mono ?_); (case side1 => repeat (first | (with_reducible first | exact HI0.out | apply IsS102.alloc | apply IsS102.drewN | apply IsS102.drew | apply IsS102.set_1 | apply IsS102.set_2) | exact HI0.out)); (case side2 => repeat (first | (with_reducible first | exact HB.out | apply below_alloc | apply pw_below_drewN | apply below_drew1 | refine below_set ?_ (IsS102.ge HI0.out)) | exact HB.out)); rintro e w12 ⟨rfl, hi, hb, hk⟩; refine ⟨_, rfl, ?_⟩; have n0_ := Aside0.mk (KeepBut.trans (by repeat (first | (with_reducible first | exact HK.out | apply KeepBut.set_ | apply keep_drewN | apply keep_drew | apply keep_alloc) | exact HK.out)) hk (.inl rfl)); have n1_ := Aside0.mk (hb); have n2_ := Aside0.mk (hi); clear HK; clear HB; clear HI0; have HK := n0_; have HB := n1_; have HI0 := n2_; clear n0_ n1_ n2_; (try clear hb); (try clear hb2); (try clear hk); (try clear hi)) | ((with_reducible refine gate_callee (f := 71) rfl ?_); refine goesL_ (some 17) rfl rfl Tryd.func71 (by kernel_rfl) rfl #[.pointer (some ⟨g, 0, none⟩)] rfl (by (try simp only [List.map_toArray, List.map_cons, List.map_nil]); first | done | rfl | (simp only [List.length_drop, List.length_take]; rfl)) ?_; (with_reducible refine (spec_l01Src_byte.calls g s0_0 t107 t108 t109 t110 t111 w0 _ ?side1 ?side2 A9.out).mono ?_); (case side1 => repeat (first | (with_reducible first | exact HI0.out | apply IsS102.alloc | apply IsS102.drewN | apply IsS102.drew | apply IsS102.set_1 | apply IsS102.set_2) | exact HI0.out)); (case side2 => repeat (first | (with_reducible first | exact HB.out | apply below_alloc | apply pw_below_drewN | apply below_drew1 | refine below_set ?_ (IsS102.ge HI0.out)) | exact HB.out)); rintro e w13 ⟨rfl, hi, hb, hk⟩; refine ⟨_, rfl, ?_⟩; have n0_ := Aside0.mk (KeepBut.trans (by repeat (first | (with_reducible first | exact HK.out | apply KeepBut.set_ | apply keep_drewN | apply keep_drew | apply keep_alloc) | exact HK.out)) hk (.inl rfl)); have n1_ := Aside0.mk (hb); have n2_ := Aside0.mk (hi); clear HK; clear HB; clear HI0; have HK := n0_; have HB := n1_; have HI0 := n2_; clear n0_ n1_ n2_; (try clear hb); (try clear hb2); (try clear hk); (try clear hi)) | ((with_reducible refine gate_callee (f := 71) rfl ?_); refine goesL_ (some 21) rfl rfl Tryd.func71 (by kernel_rfl) rfl #[.pointer (some ⟨g, 0, none⟩)] rfl (by (try simp only [List.map_toArray, List.map_cons, List.map_nil]); first | done | rfl | (simp only [List.length_drop, List.length_take]; rfl)) ?_; (with_reducible refine (spec_l01Src_byte.calls g s0_0 t110 t111 t112 t113 t114 w0 _ ?side1 ?side2 A10.out).mono ?_); (case side1 => repeat (first | (with_reducible first | exact HI0.out | apply IsS102.alloc | apply IsS102.drewN | apply IsS102.drew | apply IsS102.set_1 | apply IsS102.set_2) | exact HI0.out)); (case side2 => repeat (first | (with_reducible first | exact HB.out | apply below_alloc | apply pw_below_drewN | apply below_drew1 | refine below_set ?_ (IsS102.ge HI0.out)) | exact HB.out)); rintro e w14 ⟨rfl, hi, hb, hk⟩; refine ⟨_, rfl, ?_⟩; have n0_ := Aside0.mk (KeepBut.trans (by repeat (first | (with_reducible first | exact HK.out | apply KeepBut.set_ | apply keep_drewN | apply keep_drew | apply keep_alloc) | exact HK.out)) hk (.inl rfl)); have n1_ := Aside0.mk (hb); have n2_ := Aside0.mk (hi); clear HK; clear HB; clear HI0; have HK := n0_; have HB := n1_; have HI0 := n2_; clear n0_ n1_ n2_; (try clear hb); (try clear hb2); (try clear hk); (try clear hi)))
        go_ret
        exact ⟨by first | rfl | (simp [errW_none, errW_some] <;> rfl) | (simp [*, errW_none, errW_some] <;> rfl), by repeat (first | (with_reducible first | exact HI0.out | apply IsS102.alloc | apply IsS102.drewN | apply IsS102.drew | apply IsS102.set_1 | apply IsS102.set_2) | exact HI0.out), by repeat (first | (with_reducible first | exact HB.out | apply below_alloc | apply pw_below_drewN | apply below_drew1 | refine below_set ?_ (IsS102.ge HI0.out)) | exact HB.out), by repeat (first | (with_reducible first | exact HK.out | apply KeepBut.set_ | apply keep_drewN | apply keep_drew | apply keep_alloc) | exact HK.out)⟩

/-! ### spec_l01Src_chance: function 46 -/
def spec_l01Src_chance.f (s0_0 : List Int) (s0_1 : Int) (s0_2 : Int) (a1 : Int) : Option (Bool × Int × Int) := (spec_l01Src_next.f s0_0 s0_1 s0_2 a1).bind fun bt115 => (some ((bt115.1 == (wrap64 (a1 - 1))), bt115.2.1, bt115.2.2))
set_option maxHeartbeats 8000000 in
set_option maxRecDepth 100000 in
theorem spec_l01Src_chance.calls (g : Nat) (s0_0 : List Int) (s0_1 : Int) (s0_2 : Int) (a1 : Int) (r1 : Bool) (r2 : Int) (r3 : Int) (w0 w : World) (hI : IsS102 w0 w g s0_0 s0_1 s0_2) (hB : Below w0.heap.size w0 w) (h : spec_l01Src_chance.f s0_0 s0_1 s0_2 a1 = some (r1, r2, r3)) :
    Calls Tryd.prog 46 #[.pointer (some ⟨g, 0, none⟩), .int .i64 a1] w fun e w' => e = .returned (.bool r1) ∧ IsS102 w0 w' g s0_0 r2 r3 ∧ Below w0.heap.size w0 w' ∧ KeepBut w w' g none := by
  have HI0 := Aside0.mk hI
  have HK := Aside0.mk (KeepBut.refl w g none)
  have HL := Aside0.mk hB.size
  clear hI
  have HW0 := Aside0.mk hB.size
  have HB := Aside0.mk hB
  clear hB
  have H : ((spec_l01Src_next.f s0_0 s0_1 s0_2 a1).bind fun bt115 => (some ((bt115.1 == (wrap64 (a1 - 1))), bt115.2.1, bt115.2.2))) = some (r1, r2, r3) := h
  clear h
  replace H := Option.bind_eq_some_iff.mp H
  obtain ⟨⟨t115, t116, t117⟩, A30, H⟩ := H
  replace H : (some ((t115 == (wrap64 (a1 - 1))), t116, t117)) = some (r1, r2, r3) := H
  have A3 := Aside0.mk A30
  clear A30
  simp only [Option.some.injEq, Prod.mk.injEq] at H
  obtain ⟨rfl, rfl, rfl⟩ := H
  go_enter Tryd.func46, Tryd.ntmps46
  go_wp2_with (first | ((with_reducible refine gate_callee (f := 45) rfl ?_); refine goesL_ (some 7) rfl rfl Tryd.func45 (by kernel_rfl) rfl #[.pointer (some ⟨g, 0, none⟩), .int .i64 a1] rfl (by (try simp only [List.map_toArray, List.map_cons, List.map_nil]); first | done | rfl | (simp only [List.length_drop, List.length_take]; rfl)) ?_; (with_reducible refine (spec_l01Src_next.calls g s0_0 s0_1 s0_2 a1 t115 t116 t117 w0 _ ?side1 ?side2 A3.out).mono ?_); (case side1 => repeat (first | (with_reducible first | exact HI0.out | apply IsS102.alloc | apply IsS102.drewN | apply IsS102.drew | apply IsS102.set_1 | apply IsS102.set_2) | exact HI0.out)); (case side2 => repeat (first | (with_reducible first | exact HB.out | apply below_alloc | apply pw_below_drewN | apply below_drew1 | refine below_set ?_ (IsS102.ge HI0.out)) | exact HB.out)); rintro e w4 ⟨rfl, hi, hb, hk⟩; refine ⟨_, rfl, ?_⟩; have n0_ := Aside0.mk (KeepBut.trans (by repeat (first | (with_reducible first | exact HK.out | apply KeepBut.set_ | apply keep_drewN | apply keep_drew | apply keep_alloc) | exact HK.out)) hk (.inl rfl)); have n1_ := Aside0.mk (hb); have n2_ := Aside0.mk (hi); clear HK; clear HB; clear HI0; have HK := n0_; have HB := n1_; have HI0 := n2_; clear n0_ n1_ n2_; (try clear hb); (try clear hb2); (try clear hk); (try clear hi)))
  go_ret
  exact ⟨by first | rfl | (simp [errW_none, errW_some] <;> rfl) | (simp [*, errW_none, errW_some] <;> rfl), by repeat (first | (with_reducible first | exact HI0.out | apply IsS102.alloc | apply IsS102.drewN | apply IsS102.drew | apply IsS102.set_1 | apply IsS102.set_2) | exact HI0.out), by repeat (first | (with_reducible first | exact HB.out | apply below_alloc | apply pw_below_drewN | apply below_drew1 | refine below_set ?_ (IsS102.ge HI0.out)) | exact HB.out), by repeat (first | (with_reducible first | exact HK.out | apply KeepBut.set_ | apply keep_drewN | apply keep_drew | apply keep_alloc) | exact HK.out)⟩

/-! ### spec_l07Fill: function 47 -/
def spec_l07Fill.l0 : Nat → Int → Int → List Int → Int → Option (List Int)
  | 0, _, _, _, _ => none
  | k + 1, x0, x1, x5, x6 => if x6 < x1 then (if 0 ≤ x6 then (if x6 < (x5.length : Int) then (spec_l07Fill.l0 k x0 x1 (x5.set (x6 : Int).toNat x0) (wrap64 (x6 + 1))) else (none)) else (none)) else (some x5)
def spec_l07Fill.f (k : Nat) (a0 : Int) (a1 : Int) : Option (List Int) := if 0 ≤ (mx 0 a1) then (if (mx 0 a1 : Int).toNat ≤ 281474976710656 then (spec_l07Fill.l0 k a0 a1 (List.replicate (mx 0 a1 : Int).toNat 0) 0) else (none)) else (none)
theorem spec_l07Fill.mono_l : ∀ k, (∀ y0 y1 y2 y3, LeO (spec_l07Fill.l0 k y0 y1 y2 y3) (spec_l07Fill.l0 (k + 1) y0 y1 y2 y3))
  | 0 => fun _ _ _ _ r h => by simp [spec_l07Fill.l0] at h
  | k + 1 => by
    have ih0 := spec_l07Fill.mono_l k
    · intro y0 y1 y2 y3
      unfold spec_l07Fill.l0
      repeat' first
      | (with_reducible exact ih0 _ _ _ _)
      | (with_reducible exact LeO.refl _)
      | (with_reducible exact LeO.none _)
      | (with_reducible refine LeO.ite ?_ ?_)
      | (with_reducible refine LeO.bind ?_ (fun _ => ?_))
      | exact ih0 _ _ _ _
      | exact LeO.none _
      | refine LeO.ite ?_ ?_
      | refine LeO.bind ?_ (fun _ => ?_)
theorem spec_l07Fill.mono : ∀ a0 a1 k, LeO (spec_l07Fill.f k a0 a1) (spec_l07Fill.f (k + 1) a0 a1) := by
  intro a0 a1 k
  have ih0 := spec_l07Fill.mono_l k
  unfold spec_l07Fill.f
  repeat' first
      | (with_reducible exact ih0 _ _ _ _)
      | (with_reducible exact LeO.refl _)
      | (with_reducible exact LeO.none _)
      | (with_reducible refine LeO.ite ?_ ?_)
      | (with_reducible refine LeO.bind ?_ (fun _ => ?_))
      | exact ih0 _ _ _ _
      | exact LeO.none _
      | refine LeO.ite ?_ ?_
      | refine LeO.bind ?_ (fun _ => ?_)
set_option maxHeartbeats 8000000 in
set_option maxRecDepth 100000 in
theorem spec_l07Fill.calls (k : Nat) (a0 : Int) (a1 : Int) (r : List Int) (w : World) (h : spec_l07Fill.f k a0 a1 = some r) :
    Calls Tryd.prog 47 #[.int .u8 a0, .int .i64 a1] w fun e w' => ∃ v0_ : Value, e = .returned (v0_) ∧ Kd.R (Kd.int .u8) 5 w' w.heap.size (fun _ => True) v0_ r ∧ Below w.heap.size w w' := by
  have HB := Aside0.mk (Below.refl w.heap.size w)
  have H : (if 0 ≤ (mx 0 a1) then (if (mx 0 a1 : Int).toNat ≤ 281474976710656 then (spec_l07Fill.l0 k a0 a1 (List.replicate (mx 0 a1 : Int).toNat 0) 0) else (none)) else (none)) = some r := h
  clear h
  obtain ⟨ji3, hji3⟩ : ∃ j_ : Int, (mx 0 a1) = j_ := ⟨_, rfl⟩
  replace H : (if 0 ≤ (ji3) then (if (ji3 : Int).toNat ≤ 281474976710656 then (spec_l07Fill.l0 k a0 a1 (List.replicate (ji3 : Int).toNat 0) 0) else (none)) else (none)) = some r := by first | (rw [hji3] at H; exact H) | (simp only [hji3] at H ⊢; exact H)
  (try (have hji3l : 0 ≤ ji3 := by (rw [← hji3]; unfold mx; (repeat' split) <;> omega)))
  (try (have hji3m : 0 ≤ ji3 := by omega))
  have hji3_ : (if 0 < a1 then a1 else 0) = ji3 := hji3
  by_cases c4 : 0 ≤ (ji3)
  · rw [if_pos c4] at H
    have c4b0 := eq_true c4
    have c4b1 : decide (0 ≤ (ji3)) = true := decide_eq_true c4
    clear c4
    by_cases c5 : (ji3 : Int).toNat ≤ 281474976710656
    · rw [if_pos c5] at H
      have c5b0 := eq_true c5
      have c5b1 : decide ((ji3 : Int).toNat ≤ 281474976710656) = true := decide_eq_true c5
      clear c5
      obtain ⟨y118, hy118⟩ : ∃ y_ : List Int, y_ = (List.replicate (ji3 : Int).toNat 0) := ⟨_, rfl⟩
      replace H : (spec_l07Fill.l0 k a0 a1 y118 0) = some r := by first | (rw [hy118]; with_reducible exact H) | (have H2_ := (Option.bind_some _ _).symm.trans H; rw [hy118]; with_reducible exact H2_) | (have H2_ := (Option.bind_some _ _).symm.trans H; with_reducible exact H2_) | with_reducible exact H | (rw [hy118]; exact H) | exact H
      have Ny118 := Aside0.mk hy118
      clear hy118
      have H' := Aside0.mk H
      clear H
      go_enter Tryd.func47, Tryd.ntmps47
      go_wp2_with (first | ((with_reducible refine gate_dst (N := 9) rfl ?_); refine Kd.R_make (Kd.int .u8) _ 5 rfl (N := 9) rfl 27 _ _ rfl ji3 rfl rfl Tryd.underlying27 (.int .u8 0) 1 info5 rfl (by decide) (by omega) 0 (ok := fun _ => True) (okp := fun _ => True) rfl (fun _ hk => hk) trivial (of_decide_eq_true (by first | (with_reducible assumption) | assumption)) (Nat.le_trans (Nat.mul_le_mul_right _ (of_decide_eq_true (by first | (with_reducible assumption) | assumption) : ji3.toNat ≤ 281474976710656)) (by omega)) (Below.refl _ _) (Nat.le_refl _) ?_; intro v119 w6 ho7 hb hg_ hnew_; clear hg_ hnew_; (first | rw [← Ny118.out] at ho7 | (simp only [Int.reduceToNat] at ho7; rw [← Ny118.out] at ho7)); have n0_ := Aside0.mk (Kd.R_lower ho7 (below_size (by repeat (first | (with_reducible first | exact HB.out | apply below_alloc | apply pw_below_drewN | apply below_drew1) | exact HB.out)))); have n1_ := Aside0.mk (below_step (by repeat (first | (with_reducible first | exact HB.out | apply below_alloc | apply pw_below_drewN | apply below_drew1) | exact HB.out)) hb); clear HB; have HO120 := n0_; have HB := n1_; clear n0_ n1_; clear hb ho7))
      go_loopg [6] k (fun kq v6 w' => ∃ (x5_1 : List Int) (x6_1 : Int), v6 = .int .i64 x6_1 ∧ Aside0 (spec_l07Fill.l0 kq a0 a1 x5_1 x6_1 = some r) ∧ Aside0 (kq ≤ k) ∧ Aside0 (Kd.R (Kd.int .u8) 5 w' w.heap.size (fun _ => True) v119 x5_1) ∧ Aside0 (Below w.heap.size w w'))
      case atStart => exact ⟨(y118), (0), (by first | rfl | (simp; done) | (simp [*]; done)), H', ⟨Nat.le_refl _⟩, ⟨by (with_reducible repeat (first | apply Kd.R_alloc | apply Kd.R_drewN | apply Kd.R_drew)); exact HO120.out⟩, ⟨by repeat (first | (with_reducible first | exact HB.out | apply below_alloc | apply pw_below_drewN | apply below_drew1) | exact HB.out)⟩⟩
      case round =>
        clear H'
        try clear p2
        try clear c4
        try clear c4b0
        try clear c4b1
        try clear c5
        try clear c5b0
        try clear c5b1
        obtain ⟨x5_1, x6_1, rfl, HA, HK1, HO_5, HB⟩ := hrel
        cases gk with
        | zero => exact absurd HA.out (by simp [spec_l07Fill.l0])
        | succ k1 =>
          have H := HA.out
          clear HA
          simp only [spec_l07Fill.l0] at H
          by_cases c8 : x6_1 < a1
          · rw [if_pos c8] at H
            have c8b0 : decide (x6_1 < a1) = true := decide_eq_true c8
            clear c8
            by_cases c9 : 0 ≤ x6_1
            · rw [if_pos c9] at H
              have c9b0 : decide (0 ≤ x6_1) = true := decide_eq_true c9
              clear c9
              by_cases c10 : x6_1 < (x5_1.length : Int)
              · rw [if_pos c10] at H
                have c10b0 : decide (x6_1 < (x5_1.length : Int)) = true := decide_eq_true c10
                clear c10
                obtain ⟨y121, hy121⟩ : ∃ y_ : List Int, y_ = (x5_1.set (x6_1 : Int).toNat a0) := ⟨_, rfl⟩
                replace H : (spec_l07Fill.l0 k1 a0 a1 y121 (wrap64 (x6_1 + 1))) = some r := by first | (rw [hy121]; with_reducible exact H) | (have H2_ := (Option.bind_some _ _).symm.trans H; rw [hy121]; with_reducible exact H2_) | (have H2_ := (Option.bind_some _ _).symm.trans H; with_reducible exact H2_) | with_reducible exact H | (rw [hy121]; exact H) | exact H
                have Ny121 := Aside0.mk hy121
                clear hy121
                have H' := Aside0.mk H
                clear H
                have p11 : 0 ≤ (x6_1 : Int) := of_decide_eq_true (by first | (with_reducible assumption) | assumption)
                have q11 : (x6_1 : Int) < ((x5_1.length : Int) : Int) := of_decide_eq_true (by first | (with_reducible assumption) | assumption)
                obtain ⟨go11, co11, eo11, gb11, gl11, cl11, HG11⟩ := Kd.R_form HO_5.out (by omega)
                (first | cases eo11 | (injection eo11 with ea_ en_ ec_; (first | subst ea_ | (injection ea_ with ea_; subst ea_)); subst ec_; clear en_))
                have GB11 := Aside0.mk gb11
                have GG11 := Aside0.mk HG11
                clear gb11 gl11 HG11
                obtain ⟨hx11_0, hf11_0⟩ := Kd.R_celln 0 HO_5.out (x6_1 : Int) p11 q11
                replace p11 := eq_true p11
                replace q11 := eq_true q11
                have HP12 := Kd.R_putg HO_5.out (x6_1 : Int) a0
                go_wp2_with (first | ((with_reducible refine gate_store (t := 5) (p := 18) rfl ?_); refine store_event (t := 5) (p := 18) (v := ?vo_w13) (w1 := (wr.setCell ⟨go11, (x6_1 : Int).toNat, none⟩ (.int .u8 a0))) ?hg ?ho ?hn ?hr ?_; (case ho => rfl); (case hg => rfl); (case hn => rfl); (case hr => first | (go_simp; done) | (go_simp; rfl)); intro w13 hw; have hg : wr.grownBy w13 (some go11) := (by rw [hw]; exact HP12.2); have hp_ : Kd.R (Kd.int .u8) 5 w13 w.heap.size (fun _ => True) (.slice (some ⟨go11, 0, none⟩) x5_1.length co11) y121 := (by rw [hw, Ny121.out]; exact HP12.1); clear HP12; have n0_ := Aside0.mk (hp_); have n1_ := Aside0.mk ((by rw [hw]; exact below_set (HB.out) GB11.out : Below w.heap.size w w13)); clear HO_5; clear HB; have HO_5 := n0_; have HB := n1_; clear n0_ n1_; clear hg hw hp_))
                go_roundg k1
                case measure => have := HK1.out; omega
                case rel => exact ⟨(y121), (wrap64 (x6_1 + 1)), (by first | rfl | (simp; done) | (simp [*]; done)), H', ⟨by have := HK1.out; omega⟩, ⟨by (with_reducible repeat (first | apply Kd.R_alloc | apply Kd.R_drewN | apply Kd.R_drew)); exact HO_5.out⟩, ⟨by repeat (first | (with_reducible first | exact HB.out | apply below_alloc | apply pw_below_drewN | apply below_drew1) | exact HB.out)⟩⟩
              · rw [if_neg c10] at H
                exact absurd H (by simp)
            · rw [if_neg c9] at H
              exact absurd H (by simp)
          · rw [if_neg c8] at H
            have c8b0 : decide (x6_1 < a1) = false := decide_eq_false c8
            clear c8
            obtain rfl := Option.some.inj H
            go_wp2
            go_ret
            exact ⟨_, by first | rfl | (simp [errW_none, errW_some] <;> rfl) | (simp only [← hji3]; first | rfl | (simp [errW_none, errW_some] <;> rfl)) | (simp [*, errW_none, errW_some] <;> rfl), by (with_reducible repeat (first | apply Kd.R_alloc | apply Kd.R_drewN | apply Kd.R_drew)); exact HO_5.out, by repeat (first | (with_reducible first | exact HB.out | apply below_alloc | apply pw_below_drewN | apply below_drew1) | exact HB.out)⟩
    · rw [if_neg c5] at H
      exact absurd H (by simp)
  · rw [if_neg c4] at H
    exact absurd H (by simp)

end Go.Proofs.YtkcimmlaoipdkaaDoor.PFnPriority
