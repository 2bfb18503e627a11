-- Written by a program of this repo (xprint.py) out of the translation; Lean checks it.
import Derived.Test.YtkcimmlaoipdkaaDoorPFnExactReadPriorityx0
import Derived.Test.YtkcimmlaoipdkaaDoorPFnExactReadPriorityx1
namespace Go.Proofs.YtkcimmlaoipdkaaDoor.PFnExactReadPriority
open Go.RowKit Go.Proofs.YtkcimmlaoipdkaaDoorW.PrintWords Go.Proofs.YtkcimmlaoipdkaaDoorW.PrintLast Go.Proofs.YtkcimmlaoipdkaaDoorW.PrintMore
attribute [local go_sem] max2_int min2_int max_two min_two max_three min_three max_four min_four   -- for this text's walks alone
set_option linter.unusedVariables false
set_option linter.unusedSimpArgs false

/-! ### impl_ReadPriority: function 14 -/
section
open Go.Proofs.YtkcimmlaoipdkaaDoor.RangeC
attribute [local go_sem] Oper.semAt_some
set_option maxHeartbeats 2000000
set_option maxRecDepth 100000
theorem splitSeq_made (s sep : ByteArray) (w : World) : Calls Tryd.prog 63 #[.string s, .string sep, .int .i64 0] w fun e w' =>
    e = .returned (.func (.func 83) #[] #[.pointer (some ⟨w.heap.size + 1, 0, none⟩), .pointer (some ⟨w.heap.size, 0, none⟩), .pointer (some ⟨w.heap.size + 2, 0, none⟩)]) ∧
    w' = ((w.alloc (.cells #[.string s] 9)).alloc (.cells #[.string sep] 9)).alloc (.cells #[.int .i64 0] 3) := by
  go_enter Tryd.func63, Tryd.ntmps63
  go_wp2
  go_ret
  exact ⟨by first | rfl | (simp; done) | (simp [*]; done), rfl⟩
theorem SplitSeq_made (s sep : ByteArray) (w : World) : Calls Tryd.prog 42 #[.string s, .string sep] w fun e w' =>
    e = .returned (.func (.func 83) #[] #[.pointer (some ⟨w.heap.size + 1, 0, none⟩), .pointer (some ⟨w.heap.size, 0, none⟩), .pointer (some ⟨w.heap.size + 2, 0, none⟩)]) ∧
    w' = ((w.alloc (.cells #[.string s] 9)).alloc (.cells #[.string sep] 9)).alloc (.cells #[.int .i64 0] 3) := by
  go_enter Tryd.func42, Tryd.ntmps42
  go_wp2_with (go_at_call 63; refine (splitSeq_made s sep _).mono ?_; rintro e w1 ⟨rfl, rfl⟩)
  go_ret
  exact ⟨by first | rfl | (simp; done) | (simp [*]; done), rfl⟩
def piecesN (c : UInt8) : Nat → ByteArray → List ByteArray
  | 0, s => [s]
  | d + 1, s => if Go.Lib.indexByte s.data.toList c < 0 then [s] else s.extract 0 (Go.Lib.indexByte s.data.toList c).toNat :: piecesN c d (s.extract ((Go.Lib.indexByte s.data.toList c).toNat + 1) s.size)
theorem idx_range (c : UInt8) : ∀ l : List UInt8, Go.Lib.indexByte l c = -1 ∨ (0 ≤ Go.Lib.indexByte l c ∧ Go.Lib.indexByte l c < l.length)
  | [] => .inl rfl
  | b :: l => by
    unfold Go.Lib.indexByte
    have ih := idx_range c l
    by_cases h : (b == c) = true
    · rw [if_pos h]
      right
      simp
    · rw [if_neg h]
      rcases ih with h1 | ⟨h1, h2⟩
      · rw [h1]
        left
        rfl
      · rw [if_neg (by simp; omega)]
        right
        simp
        omega
theorem w_small (q : Int) (h0 : 0 ≤ q) (h1 : q < 2000) : wrap64 q = q := by unfold wrap64; omega
def strLen (b : Nat) (w : World) : Nat := match w.cell? ⟨b, 0, none⟩ with | some (.string s) => s.size | _ => 0
theorem strLen_is {b : Nat} {w : World} {s : ByteArray} (h : w.cell? ⟨b, 0, none⟩ = some (.string s)) : strLen b w = s.size := by unfold strLen; rw [h]
def SplitInv (J : List ByteArray → World → Prop) (Bs : Nat) (xs : List ByteArray) (wr : World) : Prop := ∃ (pre : List ByteArray) (cur : ByteArray) (d : Nat), cur.size ≤ d ∧ cur.size ≤ 1024 ∧ xs = pre ++ piecesN 44 d cur ∧ Aside0 (J pre wr) ∧ Aside0 (wr.heap[Bs]? = some (.cells #[.string cur] 9 (0, 0))) ∧ Aside0 (wr.heap[Bs + 1]? = some (.cells #[.string ⟨#[44]⟩] 9 (0, 0))) ∧ Aside0 (wr.heap[Bs + 2]? = some (.cells #[.int .i64 0] 3 (0, 0)))
theorem split_seq (n : Nat) (hn : 1 ≤ n) (s : ByteArray) (hk : s.size ≤ 1024) (w : World) (Bs : Nat) (hs : w.heap[Bs]? = some (.cells #[.string s] 9 (0, 0))) (hp : w.heap[Bs + 1]? = some (.cells #[.string ⟨#[44]⟩] 9 (0, 0))) (hv : w.heap[Bs + 2]? = some (.cells #[.int .i64 0] 3 (0, 0))) :
    Seq Fence.wide n Tryd.prog 83 #[.pointer (some ⟨Bs + 1, 0, none⟩), .pointer (some ⟨Bs, 0, none⟩), .pointer (some ⟨Bs + 2, 0, none⟩)] (fun x : ByteArray => #[.string x]) (piecesN 44 s.size s) Bs Bs w := by
  intro l J W hW hWs hJd hJs hY h0
  have hz := (Array.getElem?_eq_some_iff.1 hv).1
  have HS := Aside0.mk ((hW Bs (by omega)).trans hs)
  have HP := Aside0.mk ((hW (Bs + 1) (by omega)).trans hp)
  have HV := Aside0.mk ((hW (Bs + 2) (by omega)).trans hv)
  have HY := Aside0.mk hY
  have HJS := Aside0.mk hJs
  have H0 := Aside0.mk h0
  clear hs hp hv hW hY hJs hJd h0
  have hcp : W.cell? ⟨Bs + 1, 0, none⟩ = some (.string ⟨#[44]⟩) := (blk_cell HP.out 0).trans rfl
  refine callsIn_of_wp Tryd.func83 rfl trivial ?_
  simp only [Tryd.ntmps83, List.size_toArray, List.length_cons, List.length_nil, Nat.reduceAdd, Nat.reduceSub, Array.replicate_succ, Array.replicate_zero, List.push_toArray, List.append_toArray, List.nil_append, List.cons_append]
  gi_wp2
  gi_loopw [7] (fun v7 wr => SplitInv J Bs (piecesN 44 s.size s) wr) (fun v7 wr => strLen Bs wr)
  case atStart => exact ⟨[], s, s.size, Nat.le_refl _, hk, rfl, H0, HS, HP, HV⟩
  case round =>
    clear HS HP HV H0 hcp
    obtain ⟨pre, cur, d, hd, hsm, hx, HJ, HS, HP, HV⟩ := hrel
    have hcs : wr.cell? ⟨Bs, 0, none⟩ = some (.string cur) := (blk_cell HS.out 0).trans rfl
    have hcp : wr.cell? ⟨Bs + 1, 0, none⟩ = some (.string ⟨#[44]⟩) := (blk_cell HP.out 0).trans rfl
    have hcv : wr.cell? ⟨Bs + 2, 0, none⟩ = some (.int .i64 0) := (blk_cell HV.out 0).trans rfl
    have hfs := blk_frozen HS.out 0
    have hY := HY.out
    have hlen : (cur.data.toList.length : Int) = cur.size := by rw [Array.length_toList]; rfl
    rcases idx_range 44 cur.data.toList with hi | ⟨h0, h1⟩
    · have hpc : piecesN 44 d cur = [cur] := by
        cases d with
        | zero => rfl
        | succ d => rw [piecesN, if_pos (by rw [hi]; decide)]
      rw [hpc] at hx
      obtain ⟨fn, tmps, assign, body, hy, hR⟩ := hY pre cur wr HJ.out (by rw [hx]; exact List.prefix_refl _)
      try dsimp only at hy
      have HIX := Aside0.mk hi
      clear hi hpc hY
      gi_wp2_with (refine ⟨trivial, ?_⟩; gi_at_call 85; refine (callsIn_wide.2 (Tryd.strings_Index_one cur 44 _)).mono ?_; rintro e w1 ⟨rfl, rfl⟩; rw [HIX.out])
      refine hR.mono ?_
      rintro e W3 ⟨rfl, hJ3, hk3⟩
      gi_wp2
      go_end0
      exact ⟨⟨_, rfl⟩, by rw [hx]; exact hJ3⟩
    · obtain ⟨d, rfl⟩ : ∃ m, d = m + 1 := ⟨d - 1, by omega⟩
      obtain ⟨i, hi⟩ : ∃ i : Nat, Go.Lib.indexByte cur.data.toList 44 = i := ⟨(Go.Lib.indexByte cur.data.toList 44).toNat, by omega⟩
      rw [hi] at h0 h1
      have hpd : piecesN 44 (d + 1) cur = cur.extract 0 i :: piecesN 44 d (cur.extract (i + 1) cur.size) := by
        have hnn : ¬ ((i : Int) < 0) := by omega
        have e : ∀ q : Int, q = (i : Int) → (if q < 0 then [cur] else cur.extract 0 q.toNat :: piecesN 44 d (cur.extract (q.toNat + 1) cur.size)) = cur.extract 0 i :: piecesN 44 d (cur.extract (i + 1) cur.size) := fun q hq => by rw [hq, if_neg hnn, Int.toNat_natCast]
        exact e _ hi
      have hxp : piecesN 44 s.size s = (pre ++ [cur.extract 0 i]) ++ piecesN 44 d (cur.extract (i + 1) cur.size) := by rw [hx, hpd, List.append_assoc]; rfl
      clear hpd
      obtain ⟨fn, tmps, assign, body, hy, hR⟩ := hY pre (cur.extract 0 i) wr HJ.out (by rw [hxp]; exact List.prefix_append _ _)
      try dsimp only at hy
      have HIX := Aside0.mk hi
      have hil : i < cur.size := by omega
      obtain ⟨j, hj⟩ : ∃ j : Int, j = (i : Int) + 1 := ⟨_, rfl⟩
      have hj0 : 0 ≤ j := by omega
      have HJI := Aside0.mk hj
      have hin : decide ((i : Int) < 0) = false := decide_eq_false (by omega)
      have hb1 : (i : Int) ≤ cur.size := by omega
      have hb2 : j ≤ cur.size := by omega
      have HB2 := Aside0.mk hb2
      have HB3 : Aside0 (j.toNat = i + 1) := ⟨by omega⟩
      have hi1 : (i : Int) < 2000 := by omega
      have hi2 : (i : Int) + 1 < 2000 := by omega
      have hi3 : (0 : Int) ≤ (i : Int) + 1 := by omega
      have hwi : wrap64 (i : Int) = i := w_small _ h0 hi1
      have hwj : wrap64 ((i : Int) + 1) = j := (w_small _ hi3 hi2).trans hj.symm
      clear hj hi1 hi2 hi3
      clear hi hY hx h0 h1 hlen
      gi_wp2_with (refine ⟨trivial, ?_⟩; gi_at_call 85; refine (callsIn_wide.2 (Tryd.strings_Index_one cur 44 _)).mono ?_; rintro e w1 ⟨rfl, rfl⟩; rw [HIX.out])
      refine hR.mono ?_
      rintro e W3 ⟨rfl, hJ3, hk3⟩
      have HS3 := Aside0.mk ((hk3 Bs (Nat.le_refl _) (by omega)).trans HS.out)
      have HP3 := Aside0.mk ((hk3 (Bs + 1) (by omega) (by omega)).trans HP.out)
      have HV3 := Aside0.mk ((hk3 (Bs + 2) (by omega) (by omega)).trans HV.out)
      have HJ3 := Aside0.mk hJ3
      have hcs3 : W3.cell? ⟨Bs, 0, none⟩ = some (.string cur) := (blk_cell HS3.out 0).trans rfl
      have hcp3 : W3.cell? ⟨Bs + 1, 0, none⟩ = some (.string ⟨#[44]⟩) := (blk_cell HP3.out 0).trans rfl
      have hfs3 := blk_frozen HS3.out 0
      have HM := Aside0.mk (strLen_is hcs)
      have HX := Aside0.mk hxp
      have HD := Aside0.mk hd
      have HIL := Aside0.mk hil
      have HSM := Aside0.mk hsm
      clear hk3 hJ3 hR hy hcs hcp hcv hfs HS HP HV HJ hxp hd hil hb1 hsm hk hWs hin hwi hb2
      gi_wp2
      case isFalse => rename_i hx; exact absurd HB2.out (Int.not_le.2 hx)
      have hxp := HX.out
      have hd := HD.out
      have hil := HIL.out
      have hsm := HSM.out
      have hj3 := HB3.out
      clear hwj
      have hce : (cur.extract j.toNat cur.size).size = cur.size - (i + 1) := by rw [hj3, ByteArray.size_extract]; omega
      have HS4 := blk_set HS3.out 0 (.string (cur.extract j.toNat cur.size))
      have hcs4 : (W3.setCell ⟨Bs, 0, none⟩ (.string (cur.extract j.toNat cur.size))).cell? ⟨Bs, 0, none⟩ = some (.string (cur.extract j.toNat cur.size)) := (blk_cell (HS4.trans rfl) 0).trans rfl
      refine ⟨⟨pre ++ [cur.extract 0 i], cur.extract j.toNat cur.size, d, by omega, by omega, by rw [hj3]; exact hxp, ⟨HJS.out _ _ _ HJ3.out⟩, ⟨HS4.trans rfl⟩, ⟨blk_far HP3.out (by show Bs + 1 ≠ Bs; omega) _⟩, ⟨blk_far HV3.out (by show Bs + 2 ≠ Bs; omega) _⟩⟩, ?_⟩
      rw [HM.out, strLen_is hcs4]
      omega
def third (part : ByteArray) : Int := if h : 2 < part.size then ((part[2]'h).toNat : Int) else 0
def stepOf (p : Int × Bool) (part : ByteArray) : Int × Bool :=
  if part.toList = [105] ∨ part.toList = [105, 61, 63, 49] then (p.1, true) else if part.toList = [105, 61, 63, 48] then (p.1, false) else
    if part.size = 3 ∧ (part.extract 0 2).toList = [117, 61] ∧ 48 ≤ third part ∧ third part ≤ 55 then (third part - 48, p.2) else p
def partStep (p : Int × Bool) (x : ByteArray) : Int × Bool := stepOf p ⟨(Go.Lib.trimB x.data.toList 32).toArray⟩
def readP (s : ByteArray) : Int × Bool := if 1024 < s.size then (3, false) else (piecesN 44 s.size s).foldl partStep (3, false)
theorem alloc5 (w : World) (a b c d e : Obj) : ((((((w.alloc a).alloc b).alloc c).alloc d).alloc e).heap[w.heap.size]? = some a ∧ (((((w.alloc a).alloc b).alloc c).alloc d).alloc e).heap[w.heap.size + 1]? = some b ∧ (((((w.alloc a).alloc b).alloc c).alloc d).alloc e).heap[w.heap.size + 1 + 1]? = some c ∧ (((((w.alloc a).alloc b).alloc c).alloc d).alloc e).heap[w.heap.size + 1 + 1 + 1]? = some d ∧ (((((w.alloc a).alloc b).alloc c).alloc d).alloc e).heap[w.heap.size + 1 + 1 + 2]? = some e) ∧ (((((w.alloc a).alloc b).alloc c).alloc d).alloc e).heap.size = w.heap.size + 5 := by
  have sz : ∀ (v : World) (o : Obj), (v.alloc o).heap.size = v.heap.size + 1 := fun v o => by simp
  have old : ∀ (v : World) (o : Obj) (k : Nat), k < v.heap.size → (v.alloc o).heap[k]? = v.heap[k]? := fun v o k h => Below.heap_alloc v o k h
  have new : ∀ (v : World) (o : Obj) (k : Nat), k = v.heap.size → (v.alloc o).heap[k]? = some o := fun v o k h => by rw [h]; exact heap_alloc_new v o
  have s1 := sz w a
  have s2 := sz (w.alloc a) b
  have s3 := sz ((w.alloc a).alloc b) c
  have s4 := sz (((w.alloc a).alloc b).alloc c) d
  have s5 := sz ((((w.alloc a).alloc b).alloc c).alloc d) e
  refine ⟨⟨?_, ?_, ?_, ?_, ?_⟩, by omega⟩
  · rw [old _ e _ (by omega), old _ d _ (by omega), old _ c _ (by omega), old _ b _ (by omega), new _ a _ rfl]
  · rw [old _ e _ (by omega), old _ d _ (by omega), old _ c _ (by omega), new _ b _ (by omega)]
  · rw [old _ e _ (by omega), old _ d _ (by omega), new _ c _ (by omega)]
  · rw [old _ e _ (by omega), new _ d _ (by omega)]
  · rw [new _ e _ (by omega)]
theorem pieces_size (c : UInt8) : ∀ (d : Nat) (s x : ByteArray), x ∈ piecesN c d s → x.size ≤ s.size
  | 0, s, x, h => by
    simp only [piecesN, List.mem_singleton] at h
    rw [h]
    exact Nat.le_refl _
  | d + 1, s, x, h => by
    have e : piecesN c (d + 1) s = if Go.Lib.indexByte s.data.toList c < 0 then [s] else s.extract 0 (Go.Lib.indexByte s.data.toList c).toNat :: piecesN c d (s.extract ((Go.Lib.indexByte s.data.toList c).toNat + 1) s.size) := rfl
    rw [e] at h
    split at h
    · rw [List.mem_singleton.1 h]
      exact Nat.le_refl _
    · rcases List.mem_cons.1 h with h | h
      · rw [h, ByteArray.size_extract]
        omega
      · have := pieces_size c d _ _ h
        rw [ByteArray.size_extract] at this
        omega
theorem ReadPriority_calls (s : ByteArray) (w : World) : Calls Tryd.prog 14 #[.string s] w fun e w' => e = .returned (.tuple #[.int .i64 (readP s).1, .bool (readP s).2]) ∧ Below w.heap.size w w' := by
  by_cases hs : 1024 < s.size
  · have e : readP s = (3, false) := by unfold readP; rw [if_pos hs]
    rw [e]
    have q1 : (1024 < (s.size : Int)) = True := eq_true (by omega)
    have q2 : decide (1024 < (s.size : Int)) = true := decide_eq_true (by omega)
    clear e
    go_enter Tryd.func14, Tryd.ntmps14
    go_wp2
    go_region
    all_goals go_wp2
    all_goals go_ret2
    all_goals exact ⟨by first | rfl | (simp; done) | (simp [*]; done), by repeat (first | exact Below.refl _ _ | apply below_alloc | apply pw_below_drewN | apply below_drew1)⟩
  · obtain ⟨r, hr⟩ : ∃ r, (piecesN 44 s.size s).foldl partStep (3, false) = r := ⟨_, rfl⟩
    have er : readP s = r := by unfold readP; rw [if_neg hs, hr]
    rw [er]
    clear er
    have HR := Aside0.mk hr
    clear hr
    have q1 : (1024 < (s.size : Int)) = False := eq_false (by omega)
    have q2 : decide (1024 < (s.size : Int)) = false := decide_eq_false (by omega)
    refine (callsIn_wide (n := 6)).1 ?_
    refine callsIn_of_wp_marks Tryd.func14 rfl trivial ?_
    simp only [Tryd.ntmps14, List.size_toArray, List.length_cons, List.length_nil, Nat.reduceAdd, Nat.reduceSub, Array.replicate_succ, Array.replicate_zero, List.push_toArray, List.append_toArray, List.nil_append, List.cons_append]
    gi_wp2_with (refine ⟨trivial, ?_⟩; gi_at_call 42; refine (callsIn_wide.2 (SplitSeq_made s ⟨#[44]⟩ _)).mono ?_; rintro e w1 ⟨rfl, rfl⟩)
    have hw5 : (((((w.alloc (Obj.cells #[Value.int IntKind.i64 3] 3)).alloc (Obj.cells #[Value.bool false] 4)).alloc (Obj.cells #[Value.string s] 9)).alloc (Obj.cells #[Value.string { data := #[44] }] 9)).alloc (Obj.cells #[Value.int IntKind.i64 0] 3)).heap.size = w.heap.size + 5 := (alloc5 w _ _ _ _ _).2
    have hb0 : Below w.heap.size w (((((w.alloc (Obj.cells #[Value.int IntKind.i64 3] 3)).alloc (Obj.cells #[Value.bool false] 4)).alloc (Obj.cells #[Value.string s] 9)).alloc (Obj.cells #[Value.string { data := #[44] }] 9)).alloc (Obj.cells #[Value.int IntKind.i64 0] 3)) := by
      repeat (first | exact Below.refl _ _ | apply below_alloc)
    have h0 : (((((w.alloc (Obj.cells #[Value.int IntKind.i64 3] 3)).alloc (Obj.cells #[Value.bool false] 4)).alloc (Obj.cells #[Value.string s] 9)).alloc (Obj.cells #[Value.string { data := #[44] }] 9)).alloc (Obj.cells #[Value.int IntKind.i64 0] 3)).heap[w.heap.size]? = some (.cells #[.int .i64 3] 3 (0, 0)) := (alloc5 w _ _ _ _ _).1.1
    have h1 : (((((w.alloc (Obj.cells #[Value.int IntKind.i64 3] 3)).alloc (Obj.cells #[Value.bool false] 4)).alloc (Obj.cells #[Value.string s] 9)).alloc (Obj.cells #[Value.string { data := #[44] }] 9)).alloc (Obj.cells #[Value.int IntKind.i64 0] 3)).heap[w.heap.size + 1]? = some (.cells #[.bool false] 4 (0, 0)) := (alloc5 w _ _ _ _ _).1.2.1
    have h2 : (((((w.alloc (Obj.cells #[Value.int IntKind.i64 3] 3)).alloc (Obj.cells #[Value.bool false] 4)).alloc (Obj.cells #[Value.string s] 9)).alloc (Obj.cells #[Value.string { data := #[44] }] 9)).alloc (Obj.cells #[Value.int IntKind.i64 0] 3)).heap[w.heap.size + 1 + 1]? = some (.cells #[.string s] 9 (0, 0)) := (alloc5 w _ _ _ _ _).1.2.2.1
    have h3 : (((((w.alloc (Obj.cells #[Value.int IntKind.i64 3] 3)).alloc (Obj.cells #[Value.bool false] 4)).alloc (Obj.cells #[Value.string s] 9)).alloc (Obj.cells #[Value.string { data := #[44] }] 9)).alloc (Obj.cells #[Value.int IntKind.i64 0] 3)).heap[w.heap.size + 1 + 1 + 1]? = some (.cells #[.string ⟨#[44]⟩] 9 (0, 0)) := (alloc5 w _ _ _ _ _).1.2.2.2.1
    have h4 : (((((w.alloc (Obj.cells #[Value.int IntKind.i64 3] 3)).alloc (Obj.cells #[Value.bool false] 4)).alloc (Obj.cells #[Value.string s] 9)).alloc (Obj.cells #[Value.string { data := #[44] }] 9)).alloc (Obj.cells #[Value.int IntKind.i64 0] 3)).heap[w.heap.size + 1 + 1 + 2]? = some (.cells #[.int .i64 0] 3 (0, 0)) := (alloc5 w _ _ _ _ _).1.2.2.2.2
    revert hw5 hb0 h0 h1 h2 h3 h4
    generalize (((((w.alloc (Obj.cells #[Value.int IntKind.i64 3] 3)).alloc (Obj.cells #[Value.bool false] 4)).alloc (Obj.cells #[Value.string s] 9)).alloc (Obj.cells #[Value.string { data := #[44] }] 9)).alloc (Obj.cells #[Value.int IntKind.i64 0] 3)) = W0
    intro hw5 hb0 h0 h1 h2 h3 h4
    refine range (n := 6) rfl (by decide) (gf := 83) (lb := #[.pointer (some ⟨w.heap.size + 1 + 1 + 1, 0, none⟩), .pointer (some ⟨w.heap.size + 1 + 1, 0, none⟩), .pointer (some ⟨w.heap.size + 1 + 1 + 2, 0, none⟩)]) rfl trivial (enters_of Tryd.func83 (by kernel_rfl) rfl)
      (split_seq 5 (by decide) s (by omega) W0 (w.heap.size + 1 + 1) h2 h3 h4) (fun _ => rfl) (Nat.le_refl _) (by omega)
      (fun pre W => W.heap[w.heap.size]? = some (.cells #[.int .i64 (pre.foldl partStep (3, false)).1] 3 (0, 0)) ∧ W.heap[w.heap.size + 1]? = some (.cells #[.bool (pre.foldl partStep (3, false)).2] 4 (0, 0)) ∧ Below w.heap.size w W ∧ w.heap.size + 5 ≤ W.heap.size)
      ?hI ?hIs ?hIz ⟨h0, h1, hb0, by omega⟩
      (fun x => { tmps := #[.string s, undef, .int .i64 0, .bool false, .pointer (some ⟨w.heap.size, 0, none⟩), .pointer (some ⟨w.heap.size + 1, 0, none⟩), .string x, .string s, .int .i64 s.size, .bool false, undef, undef, .string s, .func (.func 83) #[] #[.pointer (some ⟨w.heap.size + 1 + 1 + 1, 0, none⟩), .pointer (some ⟨w.heap.size + 1 + 1, 0, none⟩), .pointer (some ⟨w.heap.size + 1 + 1 + 2, 0, none⟩)], .string x, undef, undef, undef, undef, undef, undef, undef, undef, undef, undef, undef, undef, undef, undef, undef, undef, undef, undef, undef, undef, undef, undef, undef, undef, undef, undef, undef, undef, undef, undef, undef, undef, undef, undef, undef, undef, undef], defers := [] })
      ?assign ?body ?done
    case hI =>
      rintro pre A B ⟨c0, c1, cb, cs⟩ hAB hA
      exact ⟨(hAB.block _ (by omega)).trans c0, (hAB.block _ (by omega)).trans c1, cb.trans (hAB.mono (by omega)), Nat.le_trans cs hAB.size⟩
    case hIs =>
      rintro pre A v ⟨c0, c1, cb, cs⟩
      exact ⟨blk_far c0 (by show w.heap.size ≠ w.heap.size + 1 + 1; omega) _, blk_far c1 (by show w.heap.size + 1 ≠ w.heap.size + 1 + 1; omega) _, cb.setCell (p := ⟨w.heap.size + 1 + 1, 0, none⟩) (by show w.heap.size ≤ w.heap.size + 1 + 1; omega) _, by simpa [World.setCell] using cs⟩
    case hIz =>
      rintro pre A ⟨_, _, _, cs⟩
      omega
    case assign =>
      intro l x W K hK
      gi_wp2
      exact hK
    case done =>
      rintro W ⟨c0, c1, cb, cs⟩ hD
      rw [HR.out] at c0 c1
      have hc0 : W.cell? ⟨w.heap.size, 0, none⟩ = some (.int .i64 r.1) := (blk_cell c0 0).trans rfl
      have hc1 : W.cell? ⟨w.heap.size + 1, 0, none⟩ = some (.bool r.2) := (blk_cell c1 0).trans rfl
      gi_wp2
      gi_region
      all_goals gi_wp2
      all_goals refine ⟨by simp, .inl ⟨_, _, rfl, run_takeDeferred hD, ?_⟩⟩
      all_goals refine ⟨_, results_tmp2 rfl _ _ _, rfl, ?_⟩
      all_goals exact ⟨cb.os, cb.tape, cb.output, by simpa using cb.size, fun k hk => (World.putObj_heap_other (by omega)).trans (cb.block k hk)⟩
    case body =>
      rintro l pre x W ⟨c0, c1, cb, cs⟩ hpre
      have hxs : x.size ≤ s.size := pieces_size 44 _ _ _ (hpre.subset (by simp))
      rw [List.foldl_append]
      simp only [List.foldl_cons, List.foldl_nil]
      generalize pre.foldl partStep (3, false) = q at c0 c1 ⊢
      have C0 := Aside0.mk c0
      have C1 := Aside0.mk c1
      have CB := Aside0.mk cb
      have CS := Aside0.mk cs
      have hc0 : W.cell? ⟨w.heap.size, 0, none⟩ = some (.int .i64 q.1) := (blk_cell c0 0).trans rfl
      have hc1 : W.cell? ⟨w.heap.size + 1, 0, none⟩ = some (.bool q.2) := (blk_cell c1 0).trans rfl
      have hf0 := blk_frozen c0 0
      have hf1 := blk_frozen c1 0
      unfold partStep
      obtain ⟨part, hp⟩ : ∃ p, (⟨(Go.Lib.trimB x.data.toList 32).toArray⟩ : ByteArray) = p := ⟨_, rfl⟩
      rw [hp]
      obtain ⟨st, hst⟩ : ∃ st, stepOf q part = st := ⟨_, rfl⟩
      rw [hst]
      have HST := Aside0.mk hst
      clear hst
      have HPT := Aside0.mk hp
      have HXS : Aside0 (x.size ≤ 9223372036854775807) := ⟨by omega⟩
      clear hp hxs hpre c0 c1 cb cs h0 h1 h2 h3 h4 hw5 hb0 hs
      gi_wp2_with (refine ⟨trivial, ?_⟩; gi_at_call 43; refine (CallsIn.inRound l (callsIn_wide.2 (Tryd.strings_Trim_one x 32 (by decide) _ HXS.out))).mono ?_; rintro e w1 ⟨rfl, hw⟩; rw [HPT.out]; obtain ⟨m1, hm1⟩ : ∃ m, w1 = W.drewN m := (by rcases hw with h | h; exact ⟨0, h⟩; exact ⟨1, h⟩); clear hw; subst hm1)
      all_goals first
        | (have e : stepOf q part = (q.1, true) := if_pos (by first | exact Or.inl ‹part.toList = [105]› | simpa using ‹(part.toList == [105]) = true ∨ (part.toList == [105, 61, 63, 49]) = true›); have e2 := e.symm.trans HST.out; subst e2; exact ⟨((Held.refl _ W).drewN m1).set (p := ⟨w.heap.size + 1, 0, none⟩) (by show w.heap.size + 1 < w.heap.size + 1 + 1; omega) _, blk_far (blk_drewN C0.out m1) (by show w.heap.size ≠ w.heap.size + 1; omega) _, (blk_set (blk_drewN C1.out m1) 0 _).trans rfl, (pw_below_drewN CB.out m1).setCell (p := ⟨w.heap.size + 1, 0, none⟩) (by show w.heap.size ≤ w.heap.size + 1; omega) _, CS.out⟩)
        | (have e : stepOf q part = (q.1, false) := (if_neg (by first | (intro hh; rcases hh with hh | hh <;> simp_all; done) | (simp_all; done))).trans (if_pos (by simpa using ‹(part.toList == [105, 61, 63, 48]) = true›)); have e2 := e.symm.trans HST.out; subst e2; exact ⟨((Held.refl _ W).drewN m1).set (p := ⟨w.heap.size + 1, 0, none⟩) (by show w.heap.size + 1 < w.heap.size + 1 + 1; omega) _, blk_far (blk_drewN C0.out m1) (by show w.heap.size ≠ w.heap.size + 1; omega) _, (blk_set (blk_drewN C1.out m1) 0 _).trans rfl, (pw_below_drewN CB.out m1).setCell (p := ⟨w.heap.size + 1, 0, none⟩) (by show w.heap.size ≤ w.heap.size + 1; omega) _, CS.out⟩)
        | (have hz : (part.size : Int) = 3 := by assumption
           have ht : 2 < part.size := by omega
           have h3 : third part = ((part[2]'ht).toNat : Int) := dif_pos ht
           have e : stepOf q part = (((part[2]'ht).toNat : Int) - 48, q.2) := (if_neg (by first | (intro hh; rcases hh with hh | hh <;> simp_all; done) | (simp_all; done))).trans ((if_neg (by simp_all; done)).trans ((if_pos ⟨by omega, by assumption, by rw [h3]; assumption, by rw [h3]; assumption⟩).trans (by rw [h3])))
           have e2 := e.symm.trans HST.out
           subst e2
           exact ⟨((Held.refl _ W).drewN m1).set (p := ⟨w.heap.size, 0, none⟩) (by show w.heap.size < w.heap.size + 1 + 1; omega) _, (blk_set (blk_drewN C0.out m1) 0 _).trans rfl, blk_far (blk_drewN C1.out m1) (by show w.heap.size + 1 ≠ w.heap.size; omega) _, (pw_below_drewN CB.out m1).setCell (p := ⟨w.heap.size, 0, none⟩) (Nat.le_refl _) _, CS.out⟩)
        | (have e : stepOf q part = q := (if_neg (by first | (intro hh; rcases hh with hh | hh <;> simp_all; done) | (simp_all; done))).trans ((if_neg (by simp_all; done)).trans (if_neg (fun hh => by
             obtain ⟨g1, g2, g3, g4⟩ := hh
             have ht : 2 < part.size := by omega
             have h3 : third part = ((part[2]'ht).toNat : Int) := dif_pos ht
             rw [h3] at g3 g4
             first | omega | exact absurd g2 (by assumption))))
           have e2 := e.symm.trans HST.out
           subst e2
           exact ⟨(Held.refl _ W).drewN m1, blk_drewN C0.out m1, blk_drewN C1.out m1, pw_below_drewN CB.out m1, CS.out⟩)
end
def impl_ReadPriority.f (a0 : ByteArray) : Option (Int × Bool) := some (readP a0)
theorem impl_ReadPriority.calls (a0 : ByteArray) (r1 : Int) (r2 : Bool) (w : World) (h : impl_ReadPriority.f a0 = some (r1, r2)) :
    Calls Tryd.prog 14 #[.string a0] w fun e w' => e = .returned (.tuple #[.int .i64 r1, .bool r2]) ∧ Below w.heap.size w w' := by
  have e := Option.some.inj h
  have h1 : (readP a0).1 = r1 := by rw [e]
  have h2 : (readP a0).2 = r2 := by rw [e]
  subst h1 h2
  exact ReadPriority_calls a0 w

/-! ### laws_FnExactReadPriority: function 4 -/
def laws_FnExactReadPriority.f (k : Nat) (a0 : ByteArray) : Option (Bool) := if (a0.size : Int) > 1048576 then (some true) else ((spec_ReadPriority.f k a0).bind fun bt101 => ((impl_ReadPriority.f a0).bind fun bt103 => (if bt103.1 = bt101.1 then (if (bt103.2 != bt101.2) = true then (some false) else (some true)) else (some false))))
theorem laws_FnExactReadPriority.mono : ∀ a0 k, LeO (laws_FnExactReadPriority.f k a0) (laws_FnExactReadPriority.f (k + 1) a0) := by
  intro a0 k
  unfold laws_FnExactReadPriority.f
  repeat' first
      | (with_reducible exact spec_ReadPriority.mono _ _)
      | (with_reducible exact LeO.refl _)
      | (with_reducible exact LeO.none _)
      | (with_reducible refine LeO.ite ?_ ?_)
      | (with_reducible refine LeO.bind ?_ (fun _ => ?_))
      | exact spec_ReadPriority.mono _ _
      | exact LeO.none _
      | refine LeO.ite ?_ ?_
      | refine LeO.bind ?_ (fun _ => ?_)
set_option maxHeartbeats 8000000 in
set_option maxRecDepth 100000 in
theorem laws_FnExactReadPriority.calls (k : Nat) (a0 : ByteArray) (r : Bool) (w : World) (h : laws_FnExactReadPriority.f k a0 = some r) :
    Calls Tryd.prog 4 #[.string a0] w fun e w' => e = .returned (.bool r) ∧ Below w.heap.size w w' := by
  have HB := Aside0.mk (Below.refl w.heap.size w)
  have H : (if (a0.size : Int) > 1048576 then (some true) else ((spec_ReadPriority.f k a0).bind fun bt101 => ((impl_ReadPriority.f a0).bind fun bt103 => (if bt103.1 = bt101.1 then (if (bt103.2 != bt101.2) = true then (some false) else (some true)) else (some false))))) = some r := h
  clear h
  by_cases c2 : (a0.size : Int) > 1048576
  · rw [if_pos c2] at H
    have c2b0 : decide (1048576 < (a0.size : Int)) = true := decide_eq_true c2
    have c2b1 : decide (1048576 < a0.size) = true := decide_eq_true (by omega)
    clear c2
    obtain rfl := Option.some.inj H
    go_enter Tryd.func4, Tryd.ntmps4
    go_wp2
    go_ret
    exact ⟨by first | rfl | (simp [errW_none, errW_some] <;> rfl) | (simp [*, errW_none, errW_some] <;> rfl), by repeat (first | (with_reducible first | exact HB.out | apply below_alloc | apply pw_below_drewN | apply below_drew1) | exact HB.out)⟩
  · rw [if_neg c2] at H
    have c2b0 : decide (1048576 < (a0.size : Int)) = false := decide_eq_false c2
    have c2b1 : decide (1048576 < a0.size) = false := decide_eq_false (by omega)
    clear c2
    replace H := Option.bind_eq_some_iff.mp H
    obtain ⟨⟨t101, t102⟩, A30, H⟩ := H
    replace H : ((impl_ReadPriority.f a0).bind fun bt103 => (if bt103.1 = t101 then (if (bt103.2 != t102) = true then (some false) else (some true)) else (some false))) = some r := H
    have A3 := Aside0.mk A30
    clear A30
    replace H := Option.bind_eq_some_iff.mp H
    obtain ⟨⟨t103, t104⟩, A40, H⟩ := H
    replace H : (if t103 = t101 then (if (t104 != t102) = true then (some false) else (some true)) else (some false)) = some r := H
    have A4 := Aside0.mk A40
    clear A40
    by_cases c5 : t103 = t101
    · rw [if_pos c5] at H
      have c5b0 : (t103 == t101) = true := beq_iff_eq.mpr c5
      have c5b1 : (t103 != t101) = false := bne_eq_false_iff_eq.mpr c5
      clear c5
      by_cases c6 : (t104 != t102) = true
      · rw [if_pos c6] at H
        have c6b0 : (t104 != t102) = true := c6
        (try (have c6b1 : decide (t104 = t102) = false := by simpa using c6))
        (try (have c6b2 : (t104 == t102) = false := by simpa using c6))
        (try (have c6b3 : ¬ (t104 = t102) := by simpa using c6))
        clear c6
        obtain rfl := Option.some.inj H
        go_enter Tryd.func4, Tryd.ntmps4
        go_wp2_with (first | ((with_reducible refine gate_callee (f := 13) rfl ?_); refine goesL_ (some 12) rfl rfl Tryd.func13 (by kernel_rfl) rfl #[.string a0] rfl (by (try simp only [List.map_toArray, List.map_cons, List.map_nil]); first | done | rfl | (simp only [List.length_drop, List.length_take]; rfl)) ?_; (with_reducible refine (spec_ReadPriority.calls k a0 t101 t102 _ A3.out).mono ?_); rintro e w7 ⟨rfl, hb⟩; refine ⟨_, rfl, ?_⟩; have n0_ := Aside0.mk (below_step (by repeat (first | (with_reducible first | exact HB.out | apply below_alloc | apply pw_below_drewN | apply below_drew1) | exact HB.out)) hb); clear HB; have HB := n0_; clear n0_; (try clear hb); (try clear hb2); (try clear hk); (try clear hi)) | ((with_reducible refine gate_callee (f := 14) rfl ?_); refine goesL_ (some 17) rfl rfl Tryd.func14 (by kernel_rfl) rfl #[.string a0] rfl (by (try simp only [List.map_toArray, List.map_cons, List.map_nil]); first | done | rfl | (simp only [List.length_drop, List.length_take]; rfl)) ?_; (with_reducible refine (impl_ReadPriority.calls a0 t103 t104 _ A4.out).mono ?_); rintro e w8 ⟨rfl, hb⟩; refine ⟨_, rfl, ?_⟩; have n0_ := Aside0.mk (below_step (by repeat (first | (with_reducible first | exact HB.out | apply below_alloc | apply pw_below_drewN | apply below_drew1) | exact HB.out)) hb); clear HB; have HB := n0_; clear n0_; (try clear hb); (try clear hb2); (try clear hk); (try clear hi)))
        go_ret
        exact ⟨by first | rfl | (simp [errW_none, errW_some] <;> rfl) | (simp [*, errW_none, errW_some] <;> rfl), by repeat (first | (with_reducible first | exact HB.out | apply below_alloc | apply pw_below_drewN | apply below_drew1) | exact HB.out)⟩
      · rw [if_neg c6] at H
        have c6b0 : (t104 != t102) = false := by simpa using c6
        (try (have c6b1 : decide (t104 = t102) = true := by simpa using c6))
        (try (have c6b2 : (t104 == t102) = true := by simpa using c6))
        clear c6
        obtain rfl := Option.some.inj H
        go_enter Tryd.func4, Tryd.ntmps4
        go_wp2_with (first | ((with_reducible refine gate_callee (f := 13) rfl ?_); refine goesL_ (some 12) rfl rfl Tryd.func13 (by kernel_rfl) rfl #[.string a0] rfl (by (try simp only [List.map_toArray, List.map_cons, List.map_nil]); first | done | rfl | (simp only [List.length_drop, List.length_take]; rfl)) ?_; (with_reducible refine (spec_ReadPriority.calls k a0 t101 t102 _ A3.out).mono ?_); rintro e w9 ⟨rfl, hb⟩; refine ⟨_, rfl, ?_⟩; have n0_ := Aside0.mk (below_step (by repeat (first | (with_reducible first | exact HB.out | apply below_alloc | apply pw_below_drewN | apply below_drew1) | exact HB.out)) hb); clear HB; have HB := n0_; clear n0_; (try clear hb); (try clear hb2); (try clear hk); (try clear hi)) | ((with_reducible refine gate_callee (f := 14) rfl ?_); refine goesL_ (some 17) rfl rfl Tryd.func14 (by kernel_rfl) rfl #[.string a0] rfl (by (try simp only [List.map_toArray, List.map_cons, List.map_nil]); first | done | rfl | (simp only [List.length_drop, List.length_take]; rfl)) ?_; (with_reducible refine (impl_ReadPriority.calls a0 t103 t104 _ A4.out).mono ?_); rintro e w10 ⟨rfl, hb⟩; refine ⟨_, rfl, ?_⟩; have n0_ := Aside0.mk (below_step (by repeat (first | (with_reducible first | exact HB.out | apply below_alloc | apply pw_below_drewN | apply below_drew1) | exact HB.out)) hb); clear HB; have HB := n0_; clear n0_; (try clear hb); (try clear hb2); (try clear hk); (try clear hi)))
        go_ret
        exact ⟨by first | rfl | (simp [errW_none, errW_some] <;> rfl) | (simp [*, errW_none, errW_some] <;> rfl), by repeat (first | (with_reducible first | exact HB.out | apply below_alloc | apply pw_below_drewN | apply below_drew1) | exact HB.out)⟩
    · rw [if_neg c5] at H
      have c5b0 : (t103 == t101) = false := beq_eq_false_iff_ne.mpr c5
      have c5b1 : (t103 != t101) = true := bne_iff_ne.mpr c5
      obtain rfl := Option.some.inj H
      go_enter Tryd.func4, Tryd.ntmps4
      go_wp2_with (first | ((with_reducible refine gate_callee (f := 13) rfl ?_); refine goesL_ (some 12) rfl rfl Tryd.func13 (by kernel_rfl) rfl #[.string a0] rfl (by (try simp only [List.map_toArray, List.map_cons, List.map_nil]); first | done | rfl | (simp only [List.length_drop, List.length_take]; rfl)) ?_; (with_reducible refine (spec_ReadPriority.calls k a0 t101 t102 _ A3.out).mono ?_); rintro e w11 ⟨rfl, hb⟩; refine ⟨_, rfl, ?_⟩; have n0_ := Aside0.mk (below_step (by repeat (first | (with_reducible first | exact HB.out | apply below_alloc | apply pw_below_drewN | apply below_drew1) | exact HB.out)) hb); clear HB; have HB := n0_; clear n0_; (try clear hb); (try clear hb2); (try clear hk); (try clear hi)) | ((with_reducible refine gate_callee (f := 14) rfl ?_); refine goesL_ (some 17) rfl rfl Tryd.func14 (by kernel_rfl) rfl #[.string a0] rfl (by (try simp only [List.map_toArray, List.map_cons, List.map_nil]); first | done | rfl | (simp only [List.length_drop, List.length_take]; rfl)) ?_; (with_reducible refine (impl_ReadPriority.calls a0 t103 t104 _ A4.out).mono ?_); rintro e w12 ⟨rfl, hb⟩; refine ⟨_, rfl, ?_⟩; have n0_ := Aside0.mk (below_step (by repeat (first | (with_reducible first | exact HB.out | apply below_alloc | apply pw_below_drewN | apply below_drew1) | exact HB.out)) hb); clear HB; have HB := n0_; clear n0_; (try clear hb); (try clear hb2); (try clear hk); (try clear hi)))
      go_ret
      exact ⟨by first | rfl | (simp [errW_none, errW_some] <;> rfl) | (simp [*, errW_none, errW_some] <;> rfl), by repeat (first | (with_reducible first | exact HB.out | apply below_alloc | apply pw_below_drewN | apply below_drew1) | exact HB.out)⟩

/-- THE ONE PURE STATEMENT of laws_FnExactReadPriority: yours. -/
def laws_FnExactReadPriority.Pure : Prop := ∀ (a0 : ByteArray), a0.size ≤ 140737488351232 → ∃ k, laws_FnExactReadPriority.f k a0 = some true
theorem laws_FnExactReadPriority.walk (P : laws_FnExactReadPriority.Pure) (a0 : ByteArray) (w : World) (w0 : a0.size ≤ 140737488351232) :
    Calls Tryd.prog 4 #[.string a0] w fun e w' => e = .returned (.bool true) ∧ Below w.heap.size w w' := by
  obtain ⟨k, h⟩ := P a0 w0
  refine (laws_FnExactReadPriority.calls k a0 true w h).mono ?_
  rintro e w' ⟨rfl, hd⟩
  exact ⟨rfl, hd⟩

end Go.Proofs.YtkcimmlaoipdkaaDoor.PFnExactReadPriority
