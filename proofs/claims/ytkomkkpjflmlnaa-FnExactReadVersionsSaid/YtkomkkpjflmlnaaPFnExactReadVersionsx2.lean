-- Written by a program of this repo (xprint.py) out of the translation; Lean checks it.
import Derived.Test.YtkomkkpjflmlnaaPFnExactReadVersionsx0
import Derived.Test.YtkomkkpjflmlnaaPFnExactReadVersionsx1
namespace Go.Proofs.Ytkomkkpjflmlnaa.PFnExactReadVersions
open Go.RowKit Go.Proofs.YtkomkkpjflmlnaaW.PrintWords Go.Proofs.YtkomkkpjflmlnaaW.PrintLast Go.Proofs.YtkomkkpjflmlnaaW.PrintMore
attribute [local go_sem] max2_int min2_int max_two min_two max_three min_three max_four min_four   -- for this text's walks alone
set_option linter.unusedVariables false
set_option linter.unusedSimpArgs false

/-! ### spec_ReadVersions: function 4 -/
def spec_rv.num (k : Nat) (l : List Int) (at_ : Int) (code : Bool) : Option (Int × Int × Bool) :=
  if code = false then (spec_GetVar.f k l at_).bind fun t => some (if t.2.2 = 0 then (t.1, t.2.1, false) else (0, at_, true)) else some (0, at_, code)
def spec_rv.take (l : List Int) (at_ : Int) (code : Bool) (n : Int) : Option (List Int × Int × Bool) :=
  if 0 ≤ at_ ∧ at_ ≤ l.length ∧ l.length ≤ 1000000 ∧ 0 ≤ n then
    (if code = false then (if (l.length : Int) - at_ < n then some ([], at_, true) else some ((l.drop at_.toNat).take n.toNat, at_ + n, false)) else some ([], at_, code))
  else none
/-- A reader at block g. -/
def spec_rv.At (w : World) (g : Nat) (A : Option Addr) (c : Nat) (l : List Int) (at_ : Int) (code : Bool) : Prop := w.heap[g]? = some (.cells #[.slice A l.length c, .int .i64 at_, .bool code] 38 (0, 0))
theorem spec_rv.At.c0 {w : World} {g : Nat} {A : Option Addr} {c : Nat} {l : List Int} {at_ : Int} {code : Bool} (h : spec_rv.At w g A c l at_ code) : w.cell? ⟨g, 0, none⟩ = some (.slice A l.length c) := (blk_cell h 0).trans rfl
theorem spec_rv.At.c1 {w : World} {g : Nat} {A : Option Addr} {c : Nat} {l : List Int} {at_ : Int} {code : Bool} (h : spec_rv.At w g A c l at_ code) : w.cell? ⟨g, 1, none⟩ = some (.int .i64 at_) := (blk_cell h 1).trans rfl
theorem spec_rv.At.c2 {w : World} {g : Nat} {A : Option Addr} {c : Nat} {l : List Int} {at_ : Int} {code : Bool} (h : spec_rv.At w g A c l at_ code) : w.cell? ⟨g, 2, none⟩ = some (.bool code) := (blk_cell h 2).trans rfl
/-- What a call on the state at g leaves as it was. -/
def spec_rv.Kp (w w' : World) (g : Nat) : Prop := KeepBut w w' g none ∧ Below g w w'
theorem spec_rv.Kp.refl (w : World) (g : Nat) : spec_rv.Kp w w g := ⟨KeepBut.refl w g none, Below.refl g w⟩
theorem spec_rv.Kp.set {w W : World} {g : Nat} (h : spec_rv.Kp w W g) (j : Nat) (u : Value) : spec_rv.Kp w (W.setCell ⟨g, j, none⟩ u) g := ⟨h.1.set_ j u, h.2.setCell (Nat.le_refl g) u⟩
theorem spec_rv.Kp.drewN {w W : World} {g : Nat} (h : spec_rv.Kp w W g) (n : Nat) : spec_rv.Kp w (W.drewN n) g := ⟨keep_drewN h.1 n, pw_below_drewN h.2 n⟩
theorem spec_rv.Kp.drew {w W : World} {g : Nat} (h : spec_rv.Kp w W g) : spec_rv.Kp w W.drew g := ⟨keep_drew h.1, h.2.drew⟩
theorem spec_rv.Kp.trans {w W W2 : World} {g : Nat} (h : spec_rv.Kp w W g) (k : spec_rv.Kp W W2 g) : spec_rv.Kp w W2 g := ⟨KeepBut.trans h.1 k.1 (.inl rfl), h.2.trans k.2⟩
theorem spec_rv.Kp.below {w W : World} {g B : Nat} (h : spec_rv.Kp w W g) (hg : B ≤ g) : Below B w W := h.2.mono hg
theorem spec_rv.Kp.blk {w W : World} {g g' : Nat} {o : Obj} (h : spec_rv.Kp w W g) (hb : w.heap[g']? = some o) (hne : g' ≠ g) : W.heap[g']? = some o := h.1.blk hb hne (by simp)
theorem spec_rv.Kp.alloc {w W : World} {g : Nat} (h : spec_rv.Kp w W g) (hg : g ≤ w.heap.size) (o : Obj) : spec_rv.Kp w (W.alloc o) g := ⟨keep_alloc h.1 o, h.2.alloc (Nat.le_trans hg h.1.1) o⟩
theorem spec_rv.Kp.step {w W W2 : World} {g : Nat} (h : spec_rv.Kp w W g) (hg : g ≤ w.heap.size) (hb : Below W.heap.size W W2) : spec_rv.Kp w W2 g := ⟨KeepBut.trans h.1 (KeepBut.of_below hb g none) (.inl rfl), h.2.trans (hb.mono (Nat.le_trans hg h.1.1))⟩
theorem spec_rv.cwp_seal {P : Program} {c : Code} {Q : Exit → Act → World → Prop} {a : Act} {W : World} (F : World → Prop) (h : F W) (k : ∀ W', F W' → Code.wp P c Q a W') : Code.wp P c Q a W := k W h
theorem spec_rv.next_ {P : Program} {c : Code} {Q : Exit → Act → World → Prop} {K : Act → World → Prop} {a : Act} {W : World} (h : ∀ (a : Act) (w : World), Code.wp P c Q a w → K a w) (k : Code.wp P c Q a W) : K a W := h a W k
theorem spec_rv.cut_C {A : Option Addr} {c : Nat} {l : List Int} {a n : Nat} {w : World} (hr : Kd.C (Kd.int .u8) w A l.length l) (hc : l.length ≤ c) (h : a + n ≤ l.length) : Kd.C (Kd.int .u8) w (if c = a then A else A.map (·.add a)) ((l.drop a).take n).length ((l.drop a).take n) := by
  have h1 := Kd.C_drop hr (show a ≤ l.length by omega) hc
  have h2 := Kd.C_take h1 (m := n) (by rw [List.length_drop]; omega)
  have e2 : a * (Kd.int .u8).sz = a := Nat.mul_one _
  rw [e2] at h2
  exact h2
theorem spec_rv.copy_is (q : List Int) (h : q.length ≤ 1000000) : spec_l03Copy.f q = some q := by
  unfold spec_l03Copy.f
  show (if ([] : List Int).length + q.length < 140737488355328 then some ([] ++ q) else none) = some q
  rw [if_pos (by simp; omega), List.nil_append]
set_option maxHeartbeats 8000000 in
set_option maxRecDepth 100000 in
theorem spec_rv.num_calls (k : Nat) (g : Nat) (A : Option Addr) (c : Nat) (l : List Int) (at_ : Int) (code : Bool) (r1 r2 : Int) (r3 : Bool) (w : World) (HG : spec_rv.At w g A c l at_ code) (hr : Kd.C (Kd.int .u8) w A l.length l) (hc : l.length ≤ c) (h : spec_rv.num k l at_ code = some (r1, r2, r3)) :
    Calls Try.prog 24 #[.pointer (some ⟨g, 0, none⟩)] w fun e w' => e = .returned (.int .i64 r1) ∧ spec_rv.At w' g A c l r2 r3 ∧ spec_rv.Kp w w' g := by
  have hc0 := HG.c0
  have hc1 := HG.c1
  have hc2 := HG.c2
  have hf1 := blk_frozen HG 1
  have hf2 := blk_frozen HG 2
  have HG' := Aside0.mk HG
  clear HG
  have HR := Aside0.mk hr
  have HC := Aside0.mk hc
  clear hr hc
  have HK := Aside0.mk (spec_rv.Kp.refl w g)
  unfold spec_rv.num at h
  by_cases hz : code = false
  · rw [if_pos hz] at h
    subst hz
    obtain ⟨⟨t1, t2, t3⟩, h1, h2⟩ := Option.bind_eq_some_iff.1 h
    clear h
    have H1 := Aside0.mk h1
    clear h1
    by_cases h3 : t3 = 0
    · rw [if_pos h3] at h2
      simp only [Option.some.injEq, Prod.mk.injEq] at h2
      obtain ⟨rfl, rfl, rfl⟩ := h2
      subst h3
      go_enter Try.func24, Try.ntmps24
      go_wp2
      go_region_held3 (fun w' => w'.cell? ⟨g, 0, none⟩ = some (.slice A l.length c) ∧ w'.cell? ⟨g, 1, none⟩ = some (.int .i64 at_)) (go_keep) (first | (go_at_call 33; refine (spec_GetVar.calls k A c l at_ t1 t2 0 _ (by with_reducible repeat (first | exact HR.out | refine Kd.C_alloc ?_ _ | refine Kd.C_drewN ?_ _ | refine Kd.C_drew ?_)) HC.out H1.out).mono ?_; rintro e w1 ⟨rfl, hd⟩; obtain ⟨m1, hm1⟩ := hd.out; subst hm1; clear hd))
      go_wp2
      go_ret
      exact ⟨rfl, by refine blk_put (cs := #[.slice A l.length c, .int .i64 at_, .bool false]) ?_ 1 _ rfl; (with_reducible repeat (first | refine blk_drewN ?_ _ | refine blk_drew ?_ | refine blk_alloc ?_ _)); exact HG'.out, by repeat (first | (with_reducible first | exact HK.out | apply spec_rv.Kp.set | apply spec_rv.Kp.drewN | apply spec_rv.Kp.drew) | exact HK.out)⟩
    · rw [if_neg h3] at h2
      simp only [Option.some.injEq, Prod.mk.injEq] at h2
      obtain ⟨rfl, rfl, rfl⟩ := h2
      have b3 : (t3 != 0) = true := bne_iff_ne.2 h3
      clear h3
      go_enter Try.func24, Try.ntmps24
      go_wp2
      go_region_held3 (fun w' => w'.cell? ⟨g, 0, none⟩ = some (.slice A l.length c) ∧ w'.cell? ⟨g, 1, none⟩ = some (.int .i64 at_)) (go_keep) (first | (go_at_call 33; refine (spec_GetVar.calls k A c l at_ t1 t2 t3 _ (by with_reducible repeat (first | exact HR.out | refine Kd.C_alloc ?_ _ | refine Kd.C_drewN ?_ _ | refine Kd.C_drew ?_)) HC.out H1.out).mono ?_; rintro e w1 ⟨rfl, hd⟩; obtain ⟨m1, hm1⟩ := hd.out; subst hm1; clear hd))
      go_wp2
      go_ret
      exact ⟨rfl, by refine blk_put (cs := #[.slice A l.length c, .int .i64 at_, .bool false]) ?_ 2 _ rfl; (with_reducible repeat (first | refine blk_drewN ?_ _ | refine blk_drew ?_ | refine blk_alloc ?_ _)); exact HG'.out, by repeat (first | (with_reducible first | exact HK.out | apply spec_rv.Kp.set | apply spec_rv.Kp.drewN | apply spec_rv.Kp.drew) | exact HK.out)⟩
  · rw [if_neg hz] at h
    simp only [Option.some.injEq, Prod.mk.injEq] at h
    obtain ⟨rfl, rfl, rfl⟩ := h
    obtain rfl : code = true := by simpa using hz
    clear hz
    go_enter Try.func24, Try.ntmps24
    go_wp2
    go_ret
    exact ⟨rfl, HG'.out, HK.out⟩
theorem spec_rv.copy_calls {A : Option Addr} {c n : Nat} {L : List Int} (w : World) (hn : L.length = n) (hr : Kd.C (Kd.int .u8) w A L.length L) (hc : L.length ≤ c) (h : L.length ≤ 1000000) : Calls Try.prog 32 #[.slice A n c] w fun e w' => ∃ v0_ : Value, e = .returned (v0_) ∧ Kd.R (Kd.int .u8) 5 w' w.heap.size (fun _ => True) v0_ L ∧ Below w.heap.size w w' := by
  subst hn
  exact spec_l03Copy.calls A c L L w hr hc (spec_rv.copy_is L h)
set_option maxHeartbeats 8000000 in
set_option maxRecDepth 100000 in
theorem spec_rv.take_calls (g : Nat) (A : Option Addr) (c : Nat) (l : List Int) (at_ : Int) (code : Bool) (n r2 : Int) (r3 : Bool) (r1 : List Int) (w : World) (HG : spec_rv.At w g A c l at_ code) (hr : ∀ W', KeepBut w W' g none → Kd.C (Kd.int .u8) W' A l.length l) (hc : l.length ≤ c) (h : spec_rv.take l at_ code n = some (r1, r2, r3)) :
    Calls Try.prog 21 #[.pointer (some ⟨g, 0, none⟩), .int .i64 n] w fun e w' => (∃ v : Value, e = .returned v ∧ Kd.R (Kd.int .u8) 5 w' w.heap.size (fun _ => True) v r1) ∧ spec_rv.At w' g A c l r2 r3 ∧ spec_rv.Kp w w' g := by
  have hc0 := HG.c0
  have hc1 := HG.c1
  have hc2 := HG.c2
  have hf1 := blk_frozen HG 1
  have hf2 := blk_frozen HG 2
  have HGL := Aside0.mk (Nat.le_of_lt (blk_lt HG))
  have HG' := Aside0.mk HG
  clear HG
  have HR := Aside0.mk hr
  have HC := Aside0.mk hc
  have HK := Aside0.mk (spec_rv.Kp.refl w g)
  unfold spec_rv.take at h
  by_cases hb : 0 ≤ at_ ∧ at_ ≤ l.length ∧ l.length ≤ 1000000 ∧ 0 ≤ n
  · rw [if_pos hb] at h
    obtain ⟨b1, b2, b3, b6⟩ := hb
    cases code with
    | false =>
      rw [if_pos rfl] at h
      have e0 : IntKind.i64.wrap ((l.length : Int) - at_) = (l.length : Int) - at_ := IntWalk.i64_in _ (by omega)
      by_cases hn : (l.length : Int) - at_ < n
      · rw [if_pos hn] at h
        simp only [Option.some.injEq, Prod.mk.injEq] at h
        obtain ⟨rfl, rfl, rfl⟩ := h
        have q2 : decide ((l.length : Int) - at_ < n) = true := decide_eq_true hn
        clear hr hc hn
        go_enter Try.func21, Try.ntmps21
        go_wp2
        go_quiet (fail)
        go_wp2_with (first | ((with_reducible refine gate_dst (N := 26) rfl ?_); refine Kd.R_lit (Kd.int .u8) _ 5 ?hg (N := 26) ?hd (xs := ([] : List Int)) (inner := []) (ok := fun _ => True) (okp := fun _ => True) ?hr ?hp (fun _ hk => hk) trivial (Below.refl _ _) (Nat.le_refl _) (by simp) ?_; (case hd => rfl); (case hg => rfl); (case hr => first | (go_simp; done) | (go_simp; rfl)); (case hp => exact (Reps.none _ _)); intro v3 w3 ho hb hg_ hnew_; clear hg_ hnew_; have HG3 := Aside0.mk (show spec_rv.At w3 g A c l at_ true from blk_below (g := g) (o := .cells #[.slice A l.length c, .int .i64 at_, .bool true] 38 (0, 0)) (by (with_reducible repeat (first | refine blk_drewN ?_ _ | refine blk_drew ?_ | refine blk_alloc ?_ _)); refine blk_put (cs := #[.slice A l.length c, .int .i64 at_, .bool false]) ?_ 2 _ rfl; (with_reducible repeat (first | refine blk_drewN ?_ _ | refine blk_drew ?_ | refine blk_alloc ?_ _)); exact HG'.out) hb); have HK3 := Aside0.mk (spec_rv.Kp.step (show spec_rv.Kp w _ g from by repeat (first | (with_reducible first | exact HK.out | apply spec_rv.Kp.set | apply spec_rv.Kp.drewN | apply spec_rv.Kp.drew) | exact HK.out)) HGL.out hb); have HO3 := Aside0.mk (Kd.R_lower ho (show spec_rv.Kp w _ g from by repeat (first | (with_reducible first | exact HK.out | apply spec_rv.Kp.set | apply spec_rv.Kp.drewN | apply spec_rv.Kp.drew) | exact HK.out)).1.1); clear ho hb))
        go_ret
        exact ⟨⟨_, rfl, HO3.out⟩, HG3.out, HK3.out⟩
      · rw [if_neg hn] at h
        simp only [Option.some.injEq, Prod.mk.injEq] at h
        obtain ⟨rfl, rfl, rfl⟩ := h
        have q2 : decide ((l.length : Int) - at_ < n) = false := decide_eq_false hn
        have e1 : IntKind.i64.wrap (at_ + n) = at_ + n := IntWalk.i64_in _ (by omega)
        have e4 : IntKind.i64.wrap at_ = at_ := IntWalk.i64_in _ (by omega)
        have e2 : IntKind.i64.wrap (at_ + n - n) = at_ := by rw [Int.add_sub_cancel]; exact IntWalk.i64_in _ (by omega)
        have b4 : at_ ≤ at_ + n := by omega
        have b5 : at_ + n ≤ (c : Int) := by omega
        have b7 : at_.toNat + n.toNat ≤ l.length := by omega
        have e3 : (at_ + n).toNat - at_.toNat = n.toNat := by omega
        have HX := Aside0.mk (show ((l.drop at_.toNat).take n.toNat).length = n.toNat by rw [List.length_take, List.length_drop]; omega)
        have HCM := Aside0.mk (show ((l.drop at_.toNat).take n.toNat).length ≤ 1000000 by rw [List.length_take, List.length_drop]; omega)
        have HCL := Aside0.mk (show ((l.drop at_.toNat).take n.toNat).length ≤ c - at_.toNat by rw [List.length_take, List.length_drop]; omega)
        by_cases hcc : c = at_.toNat
        · obtain ⟨m, rfl⟩ : ∃ m : Nat, at_ = (m : Int) := ⟨at_.toNat, by omega⟩
          obtain rfl : m = c := by omega
          obtain rfl : n = 0 := by omega
          clear e0 e1 e2 e3 e4 b4 b5 b6 b7 q2 HX HCM HCL hcc
          have e4 : IntKind.i64.wrap (m : Int) = (m : Int) := IntWalk.i64_in _ (by omega)
          have e0 : IntKind.i64.wrap ((l.length : Int) - (m : Int)) = (l.length : Int) - (m : Int) := IntWalk.i64_in _ (by omega)
          have q2 : decide ((l.length : Int) - (m : Int) < 0) = false := decide_eq_false (by omega)
          have q3 : decide ((l.length : Int) < (m : Int)) = false := decide_eq_false (by omega)
          have HX := Aside0.mk (show ((l.drop m).take 0).length = 0 by simp)
          go_enter Try.func21, Try.ntmps21
          go_wp2
          go_quiet (fail)
          go_upto_region 5 with (fail)
          refine spec_rv.cwp_seal (fun W_ => spec_rv.At W_ g A m l (m : Int) false ∧ spec_rv.Kp w W_ g) ⟨by (with_reducible repeat (first | refine blk_drewN ?_ _ | refine blk_drew ?_ | refine blk_alloc ?_ _)); refine blk_put (cs := #[.slice A l.length m, .int .i64 (m : Int), .bool false]) ?_ 1 _ rfl; (with_reducible repeat (first | refine blk_drewN ?_ _ | refine blk_drew ?_ | refine blk_alloc ?_ _)); exact HG'.out, (by repeat (first | (with_reducible first | exact HK.out | apply spec_rv.Kp.set | apply spec_rv.Kp.drewN | apply spec_rv.Kp.drew) | exact HK.out))⟩ ?_
          rintro w4 ⟨hg4, hk4⟩
          have HG4 := Aside0.mk hg4
          have HK4 := Aside0.mk hk4
          clear hg4 hk4 hc0 hc1 hc2 hf1 hf2
          have hd0 := HG4.out.c0
          have hd1 := HG4.out.c1
          have hC4 := spec_rv.cut_C (HR.out w4 HK4.out.1) HC.out (show m + 0 ≤ l.length by omega)
          rw [if_pos rfl] at hC4
          have HC4 := Aside0.mk hC4
          clear hC4
          go_region_held3 (fun w' => w'.cell? ⟨g, 0, none⟩ = some (.slice A l.length m) ∧ w'.cell? ⟨g, 1, none⟩ = some (.int .i64 (m : Int))) (go_keep) (first | (go_at_call 32; refine (spec_rv.copy_calls (A := A) (c := 0) (n := 0) (L := (l.drop m).take 0) _ HX.out (by with_reducible repeat (first | exact Kd.C_drew HC4.out | exact HC4.out)) (by simp) (by simp)).mono ?_; rintro e w5 ⟨v5, rfl, ho, hb⟩; have HG5 := Aside0.mk (show spec_rv.At w5 g A m l (m : Int) false from blk_below (g := g) (o := .cells #[.slice A l.length m, .int .i64 (m : Int), .bool false] 38 (0, 0)) (by (with_reducible repeat (first | refine blk_drewN ?_ _ | refine blk_drew ?_ | refine blk_alloc ?_ _)); exact HG4.out) hb); have HK5 := Aside0.mk (spec_rv.Kp.step (show spec_rv.Kp w _ g from by repeat (first | (with_reducible first | exact HK4.out | apply spec_rv.Kp.drewN | apply spec_rv.Kp.drew) | exact HK4.out)) HGL.out hb); have HO5 := Aside0.mk (Kd.R_lower ho (show spec_rv.Kp w _ g from by repeat (first | (with_reducible first | exact HK4.out | apply spec_rv.Kp.drewN | apply spec_rv.Kp.drew) | exact HK4.out)).1.1); clear ho hb; have he0 := HG5.out.c0; have he1 := HG5.out.c1))
          all_goals go_wp2
          all_goals go_ret
          all_goals exact ⟨⟨_, rfl, HO5.out⟩, by rw [Int.add_zero]; (with_reducible repeat (first | refine blk_drewN ?_ _ | refine blk_drew ?_ | refine blk_alloc ?_ _)); exact HG5.out, by repeat (first | (with_reducible first | exact HK5.out | apply spec_rv.Kp.drewN | apply spec_rv.Kp.drew) | exact HK5.out)⟩
        · have HCC := Aside0.mk hcc
          go_enter Try.func21, Try.ntmps21
          go_wp2
          go_quiet (fail)
          go_upto_region 5 with (fail)
          refine spec_rv.cwp_seal (fun W_ => spec_rv.At W_ g A c l (at_ + n) false ∧ spec_rv.Kp w W_ g) ⟨by (with_reducible repeat (first | refine blk_drewN ?_ _ | refine blk_drew ?_ | refine blk_alloc ?_ _)); refine blk_put (cs := #[.slice A l.length c, .int .i64 at_, .bool false]) ?_ 1 _ rfl; (with_reducible repeat (first | refine blk_drewN ?_ _ | refine blk_drew ?_ | refine blk_alloc ?_ _)); exact HG'.out, (by repeat (first | (with_reducible first | exact HK.out | apply spec_rv.Kp.set | apply spec_rv.Kp.drewN | apply spec_rv.Kp.drew) | exact HK.out))⟩ ?_
          rintro w4 ⟨hg4, hk4⟩
          have HG4 := Aside0.mk hg4
          have HK4 := Aside0.mk hk4
          clear hg4 hk4 hc0 hc1 hc2 hf1 hf2
          have hd0 := HG4.out.c0
          have hd1 := HG4.out.c1
          have hC4 := spec_rv.cut_C (HR.out w4 HK4.out.1) HC.out b7
          rw [if_neg HCC.out] at hC4
          have HC4 := Aside0.mk hC4
          clear hC4
          go_region_held3 (fun w' => w'.cell? ⟨g, 0, none⟩ = some (.slice A l.length c) ∧ w'.cell? ⟨g, 1, none⟩ = some (.int .i64 (at_ + n))) (go_keep) (first | (go_at_call 32; refine (spec_rv.copy_calls (A := (A.map (·.add at_.toNat))) (c := c - at_.toNat) (n := n.toNat) (L := (l.drop at_.toNat).take n.toNat) _ HX.out (by with_reducible repeat (first | exact Kd.C_drew HC4.out | exact HC4.out)) HCL.out HCM.out).mono ?_; rintro e w5 ⟨v5, rfl, ho, hb⟩; have HG5 := Aside0.mk (show spec_rv.At w5 g A c l (at_ + n) false from blk_below (g := g) (o := .cells #[.slice A l.length c, .int .i64 (at_ + n), .bool false] 38 (0, 0)) (by (with_reducible repeat (first | refine blk_drewN ?_ _ | refine blk_drew ?_ | refine blk_alloc ?_ _)); exact HG4.out) hb); have HK5 := Aside0.mk (spec_rv.Kp.step (show spec_rv.Kp w _ g from by repeat (first | (with_reducible first | exact HK4.out | apply spec_rv.Kp.drewN | apply spec_rv.Kp.drew) | exact HK4.out)) HGL.out hb); have HO5 := Aside0.mk (Kd.R_lower ho (show spec_rv.Kp w _ g from by repeat (first | (with_reducible first | exact HK4.out | apply spec_rv.Kp.drewN | apply spec_rv.Kp.drew) | exact HK4.out)).1.1); clear ho hb; have he0 := HG5.out.c0; have he1 := HG5.out.c1))
          all_goals go_wp2
          all_goals go_ret
          all_goals exact ⟨⟨_, rfl, HO5.out⟩, by (with_reducible repeat (first | refine blk_drewN ?_ _ | refine blk_drew ?_ | refine blk_alloc ?_ _)); exact HG5.out, by repeat (first | (with_reducible first | exact HK5.out | apply spec_rv.Kp.drewN | apply spec_rv.Kp.drew) | exact HK5.out)⟩
    | true =>
      rw [if_neg (by simp)] at h
      simp only [Option.some.injEq, Prod.mk.injEq] at h
      obtain ⟨rfl, rfl, rfl⟩ := h
      clear hr hc
      go_enter Try.func21, Try.ntmps21
      go_wp2
      go_quiet (fail)
      go_wp2_with (first | ((with_reducible refine gate_dst (N := 26) rfl ?_); refine Kd.R_lit (Kd.int .u8) _ 5 ?hg (N := 26) ?hd (xs := ([] : List Int)) (inner := []) (ok := fun _ => True) (okp := fun _ => True) ?hr ?hp (fun _ hk => hk) trivial (Below.refl _ _) (Nat.le_refl _) (by simp) ?_; (case hd => rfl); (case hg => rfl); (case hr => first | (go_simp; done) | (go_simp; rfl)); (case hp => exact (Reps.none _ _)); intro v3 w3 ho hb hg_ hnew_; clear hg_ hnew_; have HG3 := Aside0.mk (show spec_rv.At w3 g A c l at_ true from blk_below (g := g) (o := .cells #[.slice A l.length c, .int .i64 at_, .bool true] 38 (0, 0)) (by (with_reducible repeat (first | refine blk_drewN ?_ _ | refine blk_drew ?_ | refine blk_alloc ?_ _)); refine blk_put (cs := #[.slice A l.length c, .int .i64 at_, .bool true]) ?_ 2 _ rfl; (with_reducible repeat (first | refine blk_drewN ?_ _ | refine blk_drew ?_ | refine blk_alloc ?_ _)); exact HG'.out) hb); have HK3 := Aside0.mk (spec_rv.Kp.step (show spec_rv.Kp w _ g from by repeat (first | (with_reducible first | exact HK.out | apply spec_rv.Kp.set | apply spec_rv.Kp.drewN | apply spec_rv.Kp.drew) | exact HK.out)) HGL.out hb); have HO3 := Aside0.mk (Kd.R_lower ho (show spec_rv.Kp w _ g from by repeat (first | (with_reducible first | exact HK.out | apply spec_rv.Kp.set | apply spec_rv.Kp.drewN | apply spec_rv.Kp.drew) | exact HK.out)).1.1); clear ho hb))
      go_ret
      exact ⟨⟨_, rfl, HO3.out⟩, HG3.out, HK3.out⟩
  · rw [if_neg hb] at h; exact absurd h (by simp)
theorem spec_rv.Kp.row {w W W2 : World} {g : Nat} (h : spec_rv.Kp w W g) (hg : g ≤ w.heap.size) (hb : Below w.heap.size W W2) : spec_rv.Kp w W2 g := ⟨⟨Nat.le_trans h.1.1 hb.size, fun i hi hg_ hr => (hb.block i hi).trans (h.1.2 i hi hg_ hr)⟩, h.2.trans (hb.mono hg)⟩
theorem spec_rv.c8 {W : World} {g t : Nat} {a0 a1 a2 a3 a4 a5 a6 a7 : Value} (h : W.heap[g]? = some (.cells #[a0, a1, a2, a3, a4, a5, a6, a7] t (0, 0))) :
    W.cell? ⟨g, 0, none⟩ = some a0 ∧ W.frozen? ⟨g, 0, none⟩ = false ∧ W.cell? ⟨g, 1, none⟩ = some a1 ∧ W.frozen? ⟨g, 1, none⟩ = false ∧ W.cell? ⟨g, 2, none⟩ = some a2 ∧ W.frozen? ⟨g, 2, none⟩ = false ∧ W.cell? ⟨g, 3, none⟩ = some a3 ∧ W.frozen? ⟨g, 3, none⟩ = false ∧ W.cell? ⟨g, 4, none⟩ = some a4 ∧ W.frozen? ⟨g, 4, none⟩ = false ∧ W.cell? ⟨g, 5, none⟩ = some a5 ∧ W.frozen? ⟨g, 5, none⟩ = false ∧ W.cell? ⟨g, 6, none⟩ = some a6 ∧ W.frozen? ⟨g, 6, none⟩ = false ∧ W.cell? ⟨g, 7, none⟩ = some a7 ∧ W.frozen? ⟨g, 7, none⟩ = false :=
  ⟨(blk_cell h 0).trans rfl, blk_frozen h 0, (blk_cell h 1).trans rfl, blk_frozen h 1, (blk_cell h 2).trans rfl, blk_frozen h 2, (blk_cell h 3).trans rfl, blk_frozen h 3, (blk_cell h 4).trans rfl, blk_frozen h 4, (blk_cell h 5).trans rfl, blk_frozen h 5, (blk_cell h 6).trans rfl, blk_frozen h 6, (blk_cell h 7).trans rfl, blk_frozen h 7⟩
theorem spec_rv.c3 {W : World} {g : Nat} {A : Option Addr} {c : Nat} {l : List Int} {a : Int} {d : Bool} (h : spec_rv.At W g A c l a d) :
    W.cell? ⟨g, 0, none⟩ = some (.slice A l.length c) ∧ W.frozen? ⟨g, 0, none⟩ = false ∧ W.cell? ⟨g, 1, none⟩ = some (.int .i64 a) ∧ W.frozen? ⟨g, 1, none⟩ = false ∧ W.cell? ⟨g, 2, none⟩ = some (.bool d) ∧ W.frozen? ⟨g, 2, none⟩ = false :=
  ⟨(blk_cell h 0).trans rfl, blk_frozen h 0, (blk_cell h 1).trans rfl, blk_frozen h 1, (blk_cell h 2).trans rfl, blk_frozen h 2⟩
/-- The bytes of the call's argument, seen from the world of the function's start. -/
structure spec_rv.In (w0 : World) (A : Option Addr) (c : Nat) (l : List Int) : Prop where
  r : Kd.C (Kd.int .u8) w0 A l.length l
  c : l.length ≤ c
  n : l.length ≤ 65536
theorem spec_rv.tk_calls (g : Nat) (A : Option Addr) (c : Nat) (l : List Int) (at_ : Int) (code : Bool) (n r2 : Int) (r3 : Bool) (r1 : List Int) (m : Nat) (w0 w : World) (HB : Below w0.heap.size w0 w) (hg : w0.heap.size ≤ g) (HG : spec_rv.At w g A c l at_ code) (hi : spec_rv.In w0 A c l) (h : spec_rv.take l at_ code n = some (r1, r2, r3)) (hm : r1.length = m) :
    Calls Try.prog 21 #[.pointer (some ⟨g, 0, none⟩), .int .i64 n] w fun e w' => ∃ A' c', e = .returned (.slice A' m c') ∧ Kd.C (Kd.int .u8) w' A' m r1 ∧ m ≤ c' ∧ spec_rv.At w' g A c l r2 r3 ∧ spec_rv.Kp w w' g := by
  subst hm
  refine (spec_rv.take_calls g A c l at_ code n r2 r3 r1 w HG (Kd.C_foot_came (Kd.heap_int .u8) hi.r HB hg) hi.c h).mono ?_
  rintro e w' ⟨⟨v, rfl, hv⟩, hg', hk'⟩
  obtain ⟨A', c', rfl, hle, hC⟩ := Kd.R_reads hv
  exact ⟨A', c', rfl, hC, hle, hg', hk'⟩
theorem spec_rv.take_len (l : List Int) (at_ : Int) (code : Bool) (n r2 : Int) (r3 : Bool) (r1 : List Int) (h : spec_rv.take l at_ code n = some (r1, r2, r3)) : 0 ≤ r2 ∧ r2 ≤ l.length ∧ l.length ≤ 1000000 ∧ r1.length ≤ l.length := by
  unfold spec_rv.take at h
  by_cases hb : 0 ≤ at_ ∧ at_ ≤ l.length ∧ l.length ≤ 1000000 ∧ 0 ≤ n
  · rw [if_pos hb] at h
    cases code with
    | false =>
      rw [if_pos rfl] at h
      by_cases hn : (l.length : Int) - at_ < n
      · rw [if_pos hn] at h
        simp only [Option.some.injEq, Prod.mk.injEq] at h
        obtain ⟨rfl, rfl, rfl⟩ := h
        exact ⟨hb.1, hb.2.1, hb.2.2.1, Nat.zero_le _⟩
      · rw [if_neg hn] at h
        simp only [Option.some.injEq, Prod.mk.injEq] at h
        obtain ⟨rfl, rfl, rfl⟩ := h
        refine ⟨by omega, by omega, hb.2.2.1, ?_⟩
        rw [List.length_take, List.length_drop]; omega
    | true =>
      rw [if_neg (by simp)] at h
      simp only [Option.some.injEq, Prod.mk.injEq] at h
      obtain ⟨rfl, rfl, rfl⟩ := h
      exact ⟨hb.1, hb.2.1, hb.2.2.1, Nat.zero_le _⟩
  · rw [if_neg hb] at h; exact absurd h (by simp)
def spec_rv.fixed (k : Nat) (l : List Int) (at_ : Int) (code : Bool) (n : Int) : Option (Int × Int × Bool) := (spec_rv.take l at_ code n).bind fun t => (spec_l01Value.f k t.1).bind fun v => some (v, t.2.1, t.2.2)
set_option maxHeartbeats 8000000 in
set_option maxRecDepth 100000 in
theorem spec_rv.fixed_calls (k : Nat) (g : Nat) (A : Option Addr) (c : Nat) (l : List Int) (at_ : Int) (code : Bool) (n v r2 : Int) (r3 : Bool) (w0 w : World) (HB : Below w0.heap.size w0 w) (hg : w0.heap.size ≤ g) (HG : spec_rv.At w g A c l at_ code) (hi : spec_rv.In w0 A c l) (h : spec_rv.fixed k l at_ code n = some (v, r2, r3)) :
    Calls Try.prog 17 #[.pointer (some ⟨g, 0, none⟩), .int .i64 n] w fun e w' => e = .returned (.int .i64 v) ∧ spec_rv.At w' g A c l r2 r3 ∧ spec_rv.Kp w w' g := by
  have HG' := Aside0.mk HG
  have HB' := Aside0.mk HB
  have HI := Aside0.mk hi
  have HGG := Aside0.mk hg
  unfold spec_rv.fixed at h
  obtain ⟨⟨q, p, d⟩, h1, h⟩ := Option.bind_eq_some_iff.1 h
  obtain ⟨v', h2, h⟩ := Option.bind_eq_some_iff.1 h
  simp only [Option.some.injEq, Prod.mk.injEq] at h
  obtain ⟨rfl, rfl, rfl⟩ := h
  have H1 := Aside0.mk h1
  have H2 := Aside0.mk h2
  clear HG HB hi hg h1 h2
  go_enter Try.func17, Try.ntmps17
  go_wp2_with (first | (go_at_call 21; refine (spec_rv.tk_calls g A c l at_ code n p d q q.length w0 _ (by repeat (first | (with_reducible first | exact HB'.out | apply below_alloc | apply pw_below_drewN | apply below_drew1) | exact HB'.out)) HGG.out (by (with_reducible repeat (first | refine blk_drewN ?_ _ | refine blk_drew ?_ | refine blk_alloc ?_ _)); exact HG'.out) HI.out H1.out rfl).mono ?_; rintro e w1 ⟨A1, c1, rfl, hc_, hcl_, hg_, hk_⟩; have HC1 := Aside0.mk hc_; have HL1 := Aside0.mk hcl_; have HG1 := Aside0.mk hg_; have HK1 := Aside0.mk hk_; clear hc_ hcl_ hg_ hk_) | (go_at_call 25; refine (spec_l01Value.calls k A1 c1 q v' _ (by with_reducible repeat (first | exact HC1.out | refine Kd.C_alloc ?_ _ | refine Kd.C_drewN ?_ _ | refine Kd.C_drew ?_)) HL1.out H2.out).mono ?_; rintro e w2 ⟨rfl, hd_⟩; obtain ⟨m2_, hm2_⟩ := hd_; subst hm2_))
  go_ret
  exact ⟨rfl, by (with_reducible repeat (first | refine blk_drewN ?_ _ | refine blk_drew ?_ | refine blk_alloc ?_ _)); exact HG1.out, by
    first | exact HK1.out | exact spec_rv.Kp.drewN HK1.out _⟩
def spec_rv.fault (d : Bool) : Int := if d = true then 2 else 3
set_option maxHeartbeats 8000000 in
set_option maxRecDepth 100000 in
theorem spec_rv.fault_calls (g : Nat) (A : Option Addr) (c : Nat) (l : List Int) (at_ : Int) (code : Bool) (w : World) (HG : spec_rv.At w g A c l at_ code) :
    Calls Try.prog 22 #[.pointer (some ⟨g, 0, none⟩)] w fun e w' => e = .returned (.int .i64 (spec_rv.fault code)) ∧ w' = w := by
  have hc2 := HG.c2
  clear HG
  cases code with
  | false =>
    go_enter Try.func22, Try.ntmps22
    go_wp2
    go_ret
    exact ⟨rfl, rfl⟩
  | true =>
    go_enter Try.func22, Try.ntmps22
    go_wp2
    go_ret
    exact ⟨rfl, rfl⟩
theorem spec_rv.fault_t (g : Nat) (A : Option Addr) (c : Nat) (l : List Int) (at_ : Int) (w : World) (HG : spec_rv.At w g A c l at_ true) :
    Calls Try.prog 22 #[.pointer (some ⟨g, 0, none⟩)] w fun e w' => e = .returned (.int .i64 2) ∧ w' = w := spec_rv.fault_calls g A c l at_ true w HG
theorem spec_rv.fault_f (g : Nat) (A : Option Addr) (c : Nat) (l : List Int) (at_ : Int) (w : World) (HG : spec_rv.At w g A c l at_ false) :
    Calls Try.prog 22 #[.pointer (some ⟨g, 0, none⟩)] w fun e w' => e = .returned (.int .i64 3) ∧ w' = w := spec_rv.fault_calls g A c l at_ false w HG
def spec_rv.vloop : Nat → List Int → Int → Bool → List Int → Option (List Int)
  | 0, _, _, _, _ => none
  | k + 1, l, a, c, acc => if acc.length ≤ 1000000 then (if a < (l.length : Int) then (spec_rv.fixed k l a c 4).bind fun t => if t.1 = 0 then some [] else spec_rv.vloop k l t.2.1 t.2.2 (acc ++ [t.1]) else some acc) else none
def spec_rv.vers (k : Nat) (l : List Int) (a : Int) : Option (List Int) :=
  if 0 ≤ a ∧ a ≤ l.length ∧ l.length ≤ 1000000 then
    (if ((l.length : Int) - a) % 4 = 0 then (if (l.length : Int) - a < 4 then some [] else if 32 < (l.length : Int) - a then some [] else spec_rv.vloop k l a false []) else some [])
  else none
structure spec_rv.VK (w W : World) (g : Nat) (A : Option Addr) (c : Nat) (l : List Int) (at_ : Int) (code : Bool) (v : Value) (acc : List Int) : Prop where
  s : spec_rv.At W g A c l at_ code
  k : spec_rv.Kp w W g
  r : Kd.R (Kd.int .i64) 3 W w.heap.size (fun _ => True) v acc
section
variable {w W W' : World} {g : Nat} {A : Option Addr} {c : Nat} {l : List Int} {at_ at2 : Int} {code code2 : Bool} {v : Value} {acc : List Int}
theorem spec_rv.VK.drewN (h : spec_rv.VK w W g A c l at_ code v acc) (n : Nat) : spec_rv.VK w (W.drewN n) g A c l at_ code v acc := ⟨blk_drewN h.s n, h.k.drewN n, Kd.R_drewN h.r n⟩
theorem spec_rv.VK.drew (h : spec_rv.VK w W g A c l at_ code v acc) : spec_rv.VK w W.drew g A c l at_ code v acc := ⟨blk_drew h.s, h.k.drew, Kd.R_drew h.r⟩
theorem spec_rv.VK.call (h : spec_rv.VK w W g A c l at_ code v acc) (hk : spec_rv.Kp W W' g) (hs : spec_rv.At W' g A c l at2 code2) : spec_rv.VK w W' g A c l at2 code2 v acc :=
  ⟨hs, h.k.trans hk, Kd.R_mono (Kd.R_keep (Kd.R_types h.r (show W.heap[g]? = some (.cells #[.slice A l.length c, .int .i64 at_, .bool code] 38 (0, 0)) from h.s) (by decide)) hk.1 (fun _ h_ => h_.2)) (fun _ _ => trivial)⟩
end
theorem spec_rv.info : (Try.prog.info? 3).map (fun i => (i.zero, i.size, i.bytes)) = some (some (.int .i64 0), 1, 8) := by kernel_rfl
set_option maxHeartbeats 8000000 in
set_option maxRecDepth 100000 in
theorem spec_rv.vers_calls (k : Nat) (g : Nat) (A : Option Addr) (c : Nat) (l : List Int) (at_ : Int) (out : List Int) (w0 w : World) (HB : Below w0.heap.size w0 w) (hg : w0.heap.size ≤ g) (HG : spec_rv.At w g A c l at_ false) (hi : spec_rv.In w0 A c l) (h : spec_rv.vers k l at_ = some out) :
    Calls Try.prog 13 #[.pointer (some ⟨g, 0, none⟩)] w fun e w' => ∃ (v : Value) (a2 : Int) (c2 : Bool), e = .returned v ∧ Kd.R (Kd.int .i64) 3 w' w.heap.size (fun _ => True) v out ∧ spec_rv.At w' g A c l a2 c2 ∧ spec_rv.Kp w w' g := by
  have HGS := Aside0.mk (blk_lt (show w.heap[g]? = some (.cells #[.slice A l.length c, .int .i64 at_, .bool false] 38 (0, 0)) from HG))
  have HB0 := Aside0.mk HB
  have HI := Aside0.mk hi
  have HGG := Aside0.mk hg
  have HG' := Aside0.mk HG
  clear HB hi hg HG
  unfold spec_rv.vers at h
  by_cases hb : 0 ≤ at_ ∧ at_ ≤ l.length ∧ l.length ≤ 1000000
  · rw [if_pos hb] at h
    obtain ⟨b1, b2, b3⟩ := hb
    obtain ⟨n, hn⟩ : ∃ n : Int, n = (l.length : Int) - at_ := ⟨_, rfl⟩
    rw [← hn] at h
    have e0 : IntKind.i64.wrap ((l.length : Int) - at_) = n := by rw [hn]; exact IntWalk.i64_in _ (by omega)
    have n0 : 0 ≤ n := by omega
    clear hn b1 b2 b3
    have H := Aside0.mk h
    clear h
    go_enter Try.func13, Try.ntmps13
    go_upto_region 2 with (first | ((with_reducible refine gate_dst (N := 6) rfl ?_); refine Kd.R_lit (Kd.int .i64) _ 3 ?hg (N := 6) ?hd (xs := ([] : List Int)) (inner := []) (ok := fun _ => True) (okp := fun _ => True) ?hr ?hp (fun _ hk => hk) trivial (Below.refl _ _) (Nat.le_refl _) (by simp) ?_; (case hd => rfl); (case hg => rfl); (case hr => first | (go_simp; done) | (go_simp; rfl)); (case hp => exact (Reps.none _ _)); intro v3 w3 ho hb hg_ hnew_; clear hg_ hnew_; have HS := Aside0.mk (show spec_rv.VK w w3 g A c l at_ false v3 [] from ⟨blk_below (g := g) (o := .cells #[.slice A l.length c, .int .i64 at_, .bool false] 38 (0, 0)) (by (with_reducible repeat (first | refine blk_drewN ?_ _ | refine blk_drew ?_ | refine blk_alloc ?_ _)); exact HG'.out) hb, spec_rv.Kp.step (show spec_rv.Kp w _ g from by first | exact spec_rv.Kp.refl _ _ | exact (spec_rv.Kp.refl _ _).drew | exact (spec_rv.Kp.refl _ _).drewN _) (Nat.le_of_lt HGS.out) hb, Kd.R_lower ho (Below.size (by first | exact Below.refl w.heap.size w | exact (Below.refl w.heap.size w).drew | exact pw_below_drewN (Below.refl w.heap.size w) _))⟩); clear ho hb; have y0 : w3.cell? ⟨g, 0, none⟩ = some (.slice A l.length c) := (blk_cell HS.out.s 0).trans rfl; have y1 : w3.cell? ⟨g, 1, none⟩ = some (.int .i64 at_) := (blk_cell HS.out.s 1).trans rfl; have y2 : w3.cell? ⟨g, 2, none⟩ = some (.bool false) := (blk_cell HS.out.s 2).trans rfl))
    go_wp2
    go_quiet (fail)
    refine spec_rv.next_ (by assumption) ?_
    have h := H.out
    clear H
    by_cases c1 : n % 4 = 0
    · rw [if_pos c1] at h
      have q1 : (n % 4 != 0) = false := by rw [c1]; rfl
      by_cases c2 : n < 4
      · rw [if_pos c2] at h
        have q2 : decide (n < 4) = true := decide_eq_true c2
        clear c1 c2
        simp only [Option.some.injEq] at h
        subst h
        go_wp2
        go_ret
        exact ⟨_, _, _, rfl, (show spec_rv.VK w _ g A c l at_ false v3 [] from (by first | exact HS.out | exact spec_rv.VK.drewN HS.out _ | exact spec_rv.VK.drew HS.out | ((with_reducible repeat (first | exact HS.out | apply spec_rv.VK.drewN | apply spec_rv.VK.drew)); done))).r, (show spec_rv.VK w _ g A c l at_ false v3 [] from (by first | exact HS.out | exact spec_rv.VK.drewN HS.out _ | exact spec_rv.VK.drew HS.out | ((with_reducible repeat (first | exact HS.out | apply spec_rv.VK.drewN | apply spec_rv.VK.drew)); done))).s, (show spec_rv.VK w _ g A c l at_ false v3 [] from (by first | exact HS.out | exact spec_rv.VK.drewN HS.out _ | exact spec_rv.VK.drew HS.out | ((with_reducible repeat (first | exact HS.out | apply spec_rv.VK.drewN | apply spec_rv.VK.drew)); done))).k⟩
      · rw [if_neg c2] at h
        have q2 : decide (n < 4) = false := decide_eq_false c2
        by_cases c3 : 32 < n
        · rw [if_pos c3] at h
          have q3 : decide (32 < n) = true := decide_eq_true c3
          clear c1 c2 c3
          simp only [Option.some.injEq] at h
          subst h
          go_wp2
          go_ret
          exact ⟨_, _, _, rfl, (show spec_rv.VK w _ g A c l at_ false v3 [] from (by first | exact HS.out | exact spec_rv.VK.drewN HS.out _ | exact spec_rv.VK.drew HS.out | ((with_reducible repeat (first | exact HS.out | apply spec_rv.VK.drewN | apply spec_rv.VK.drew)); done))).r, (show spec_rv.VK w _ g A c l at_ false v3 [] from (by first | exact HS.out | exact spec_rv.VK.drewN HS.out _ | exact spec_rv.VK.drew HS.out | ((with_reducible repeat (first | exact HS.out | apply spec_rv.VK.drewN | apply spec_rv.VK.drew)); done))).s, (show spec_rv.VK w _ g A c l at_ false v3 [] from (by first | exact HS.out | exact spec_rv.VK.drewN HS.out _ | exact spec_rv.VK.drew HS.out | ((with_reducible repeat (first | exact HS.out | apply spec_rv.VK.drewN | apply spec_rv.VK.drew)); done))).k⟩
        · rw [if_neg c3] at h
          have q3 : decide (32 < n) = false := decide_eq_false c3
          clear c1 c2 c3
          have HL0 := Aside0.mk h
          clear h
          go_wp2
          go_loopg [3] k (fun kq v3 wr => ∃ (a_ : Int) (c_ : Bool) (acc : List Int), Aside0 (spec_rv.vloop kq l a_ c_ acc = some out) ∧ Aside0 (kq ≤ k) ∧ Aside0 (spec_rv.VK w wr g A c l a_ c_ v3 acc))
          case atStart => exact ⟨at_, false, [], HL0, ⟨Nat.le_refl _⟩, ⟨(by first | exact HS.out | exact spec_rv.VK.drewN HS.out _ | exact spec_rv.VK.drew HS.out | ((with_reducible repeat (first | exact HS.out | apply spec_rv.VK.drewN | apply spec_rv.VK.drew)); done))⟩⟩
          case round =>
            clear HL0 HS y0 y1 y2 e0 n0 q1 q2 q3
            obtain ⟨a_, c_, acc, HA, HK1, HS⟩ := hrel
            cases gk with
            | zero => exact absurd HA.out (by simp [spec_rv.vloop])
            | succ k1 =>
              have h := HA.out
              clear HA
              simp only [spec_rv.vloop] at h
              by_cases c6 : acc.length ≤ 1000000
              · rw [if_pos c6] at h
                have HST := Aside0.mk c6
                clear c6
                have y0 : wr.cell? ⟨g, 0, none⟩ = some (.slice A l.length c) := (blk_cell HS.out.s 0).trans rfl
                have y1 : wr.cell? ⟨g, 1, none⟩ = some (.int .i64 a_) := (blk_cell HS.out.s 1).trans rfl
                have y2 : wr.cell? ⟨g, 2, none⟩ = some (.bool c_) := (blk_cell HS.out.s 2).trans rfl
                by_cases c7 : a_ < (l.length : Int)
                · rw [if_pos c7] at h
                  have q11 : decide (a_ < (l.length : Int)) = true := decide_eq_true c7
                  clear c7
                  obtain ⟨⟨v, p, d⟩, hf_, h⟩ := Option.bind_eq_some_iff.1 h
                  have HF := Aside0.mk hf_
                  dsimp only at h
                  have H := Aside0.mk h
                  clear hf_ h
                  go_wp2
                  go_quiet (fail)
                  go_upto_region 7 with (first | (go_at_call 17; refine (spec_rv.fixed_calls k1 g A c l a_ c_ 4 v p d w0 _ (HB0.out.trans ((show spec_rv.VK w _ g A c l a_ c_ _ acc from (by first | exact HS.out | exact spec_rv.VK.drewN HS.out _ | exact spec_rv.VK.drew HS.out | ((with_reducible repeat (first | exact HS.out | apply spec_rv.VK.drewN | apply spec_rv.VK.drew)); done))).k.below HGG.out)) HGG.out (show spec_rv.VK w _ g A c l a_ c_ _ acc from (by first | exact HS.out | exact spec_rv.VK.drewN HS.out _ | exact spec_rv.VK.drew HS.out | ((with_reducible repeat (first | exact HS.out | apply spec_rv.VK.drewN | apply spec_rv.VK.drew)); done))).s HI.out HF.out).mono ?_; rintro e w22 ⟨rfl, hg_, hk_⟩; have hs_ := Aside0.mk (show spec_rv.VK w w22 g A c l p d _ acc from spec_rv.VK.call (by first | exact HS.out | exact spec_rv.VK.drewN HS.out _ | exact spec_rv.VK.drew HS.out | ((with_reducible repeat (first | exact HS.out | apply spec_rv.VK.drewN | apply spec_rv.VK.drew)); done)) hk_ hg_); clear HS y0 y1 y2; have HS := hs_; clear hs_ hg_ hk_; have y0 : w22.cell? ⟨g, 0, none⟩ = some (.slice A l.length c) := (blk_cell HS.out.s 0).trans rfl; have y1 : w22.cell? ⟨g, 1, none⟩ = some (.int .i64 p) := (blk_cell HS.out.s 1).trans rfl; have y2 : w22.cell? ⟨g, 2, none⟩ = some (.bool d) := (blk_cell HS.out.s 2).trans rfl))
                  refine spec_rv.cwp_seal (fun W_ => spec_rv.VK w W_ g A c l p d _ acc) (by first | exact HS.out | exact spec_rv.VK.drewN HS.out _ | exact spec_rv.VK.drew HS.out | ((with_reducible repeat (first | exact HS.out | apply spec_rv.VK.drewN | apply spec_rv.VK.drew)); done)) ?_
                  clear HS y0 y1 y2
                  rintro w23 hs_
                  have HS := Aside0.mk hs_
                  clear hs_
                  have HB2 := Aside0.mk (Below.refl w.heap.size w23)
                  have h := H.out
                  clear H
                  by_cases c8 : v = 0
                  · rw [if_pos c8] at h
                    have q8 : (v == 0) = true := beq_iff_eq.2 c8
                    clear c8
                    simp only [Option.some.injEq] at h
                    subst h
                    go_wp2_with (first | ((with_reducible refine gate_dst (N := 43) rfl ?_); refine Kd.R_lit (Kd.int .i64) _ 3 ?hg (N := 43) ?hd (xs := ([] : List Int)) (inner := []) (ok := fun _ => True) (okp := fun _ => True) ?hr ?hp (fun _ hk => hk) trivial (Below.refl _ _) (Nat.le_refl _) (by simp) ?_; (case hd => rfl); (case hg => rfl); (case hr => first | (go_simp; done) | (go_simp; rfl)); (case hp => exact (Reps.none _ _)); intro v4 w24 ho hb hg_ hnew_; clear hg_ hnew_; have HS2 := Aside0.mk (show spec_rv.VK w w24 g A c l p d v4 [] from ⟨blk_below (g := g) (o := .cells #[.slice A l.length c, .int .i64 p, .bool d] 38 (0, 0)) (show spec_rv.VK w _ g A c l p d _ acc from (by first | exact HS.out | exact spec_rv.VK.drewN HS.out _ | exact spec_rv.VK.drew HS.out | ((with_reducible repeat (first | exact HS.out | apply spec_rv.VK.drewN | apply spec_rv.VK.drew)); done))).s hb, spec_rv.Kp.step (show spec_rv.VK w _ g A c l p d _ acc from (by first | exact HS.out | exact spec_rv.VK.drewN HS.out _ | exact spec_rv.VK.drew HS.out | ((with_reducible repeat (first | exact HS.out | apply spec_rv.VK.drewN | apply spec_rv.VK.drew)); done))).k (Nat.le_of_lt HGS.out) hb, Kd.R_lower ho (show spec_rv.VK w _ g A c l p d _ acc from (by first | exact HS.out | exact spec_rv.VK.drewN HS.out _ | exact spec_rv.VK.drew HS.out | ((with_reducible repeat (first | exact HS.out | apply spec_rv.VK.drewN | apply spec_rv.VK.drew)); done))).k.1.1⟩); clear ho hb))
                    go_ret
                    exact ⟨_, _, _, rfl, (show spec_rv.VK w _ g A c l p d v4 [] from (by first | exact HS2.out | exact spec_rv.VK.drewN HS2.out _ | exact spec_rv.VK.drew HS2.out | ((with_reducible repeat (first | exact HS2.out | apply spec_rv.VK.drewN | apply spec_rv.VK.drew)); done))).r, (show spec_rv.VK w _ g A c l p d v4 [] from (by first | exact HS2.out | exact spec_rv.VK.drewN HS2.out _ | exact spec_rv.VK.drew HS2.out | ((with_reducible repeat (first | exact HS2.out | apply spec_rv.VK.drewN | apply spec_rv.VK.drew)); done))).s, (show spec_rv.VK w _ g A c l p d v4 [] from (by first | exact HS2.out | exact spec_rv.VK.drewN HS2.out _ | exact spec_rv.VK.drew HS2.out | ((with_reducible repeat (first | exact HS2.out | apply spec_rv.VK.drewN | apply spec_rv.VK.drew)); done))).k⟩
                  · rw [if_neg c8] at h
                    have q8 : (v == 0) = false := beq_eq_false_iff_ne.2 c8
                    clear c8
                    have H := Aside0.mk h
                    clear h
                    go_wp2_with (first | ((with_reducible refine gate_builtin (b := .append) (xs := #[.tmp 44, .tmp 46]) rfl ?_); (try (refine gate_guard (by rfl) ?_; dsimp only)); at_builtin; refine Kd.R_append (Kd.int .i64) (w0 := w23) w.heap.size rfl (.tmp 44) (.tmp 46) 23 3 (.int .i64 0) 8 rfl Try.underlying23 spec_rv.info rfl (by decide) (by omega) _ acc v [.int .i64 v] (fun _ => True) (fun _ => False) rfl rfl ?aP (fun _ hk => hk.elim) ?aF ?aO ?aB ?aS ?aL ?_; (case aP => exact rfl); (case aB => exact (by repeat (first | (with_reducible first | exact HB2.out | apply below_alloc | apply pw_below_drewN | apply below_drew1) | exact HB2.out))); (case aF => exact (fun _ _ => trivial)); (case aO => exact (by (with_reducible repeat (first | apply Kd.R_alloc | apply Kd.R_drewN | apply Kd.R_drew)); exact HS.out.r)); (case aS => exact (Nat.le_trans HS.out.k.1.1 (below_size (by repeat (first | (with_reducible first | exact (Below.refl w23.heap.size w23) | apply below_alloc | apply pw_below_drewN | apply below_drew1) | exact (Below.refl w23.heap.size w23)))))); (case aL => have := HST.out; omega); intro v5 w25 ho hb hg hat; have HS3 := Aside0.mk (show spec_rv.VK w w25 g A c l p d v5 (acc ++ [v]) from ⟨(hb.block g HGS.out).trans HS.out.s, spec_rv.Kp.row HS.out.k (Nat.le_of_lt HGS.out) hb, ho⟩); clear ho hb hg hat))
                    go_roundg k1
                    case measure => have := HK1.out; omega
                    case rel => exact ⟨p, d, acc ++ [v], H, ⟨by have := HK1.out; omega⟩, ⟨(by first | exact HS3.out | exact spec_rv.VK.drewN HS3.out _ | exact spec_rv.VK.drew HS3.out | ((with_reducible repeat (first | exact HS3.out | apply spec_rv.VK.drewN | apply spec_rv.VK.drew)); done))⟩⟩
                · rw [if_neg c7] at h
                  have q11 : decide (a_ < (l.length : Int)) = false := decide_eq_false c7
                  clear c7
                  simp only [Option.some.injEq] at h
                  subst h
                  go_wp2
                  go_quiet (fail)
                  go_wp2
                  go_ret
                  exact ⟨_, _, _, rfl, (show spec_rv.VK w _ g A c l a_ c_ _ acc from (by first | exact HS.out | exact spec_rv.VK.drewN HS.out _ | exact spec_rv.VK.drew HS.out | ((with_reducible repeat (first | exact HS.out | apply spec_rv.VK.drewN | apply spec_rv.VK.drew)); done))).r, (show spec_rv.VK w _ g A c l a_ c_ _ acc from (by first | exact HS.out | exact spec_rv.VK.drewN HS.out _ | exact spec_rv.VK.drew HS.out | ((with_reducible repeat (first | exact HS.out | apply spec_rv.VK.drewN | apply spec_rv.VK.drew)); done))).s, (show spec_rv.VK w _ g A c l a_ c_ _ acc from (by first | exact HS.out | exact spec_rv.VK.drewN HS.out _ | exact spec_rv.VK.drew HS.out | ((with_reducible repeat (first | exact HS.out | apply spec_rv.VK.drewN | apply spec_rv.VK.drew)); done))).k⟩
              · rw [if_neg c6] at h; exact absurd h (by simp)
    · rw [if_neg c1] at h
      have q1 : (n % 4 != 0) = true := bne_iff_ne.2 c1
      clear c1
      simp only [Option.some.injEq] at h
      subst h
      go_wp2
      go_ret
      exact ⟨_, _, _, rfl, (show spec_rv.VK w _ g A c l at_ false v3 [] from (by first | exact HS.out | exact spec_rv.VK.drewN HS.out _ | exact spec_rv.VK.drew HS.out | ((with_reducible repeat (first | exact HS.out | apply spec_rv.VK.drewN | apply spec_rv.VK.drew)); done))).r, (show spec_rv.VK w _ g A c l at_ false v3 [] from (by first | exact HS.out | exact spec_rv.VK.drewN HS.out _ | exact spec_rv.VK.drew HS.out | ((with_reducible repeat (first | exact HS.out | apply spec_rv.VK.drewN | apply spec_rv.VK.drew)); done))).s, (show spec_rv.VK w _ g A c l at_ false v3 [] from (by first | exact HS.out | exact spec_rv.VK.drewN HS.out _ | exact spec_rv.VK.drew HS.out | ((with_reducible repeat (first | exact HS.out | apply spec_rv.VK.drewN | apply spec_rv.VK.drew)); done))).k⟩
  · rw [if_neg hb] at h; exact absurd h (by simp)

def spec_rv.retry (l : List Int) (dl sl : Nat) (a : Int) : Option (Int × Nat × Nat × Int) :=
  if 0 ≤ a ∧ a ≤ l.length ∧ l.length ≤ 1000000 then
    (if (l.length : Int) - a - 8 < 1 then some (0, 0, 0, 2) else if 64 < (l.length : Int) - a - 8 then some (0, 0, 0, 3) else (spec_rv.take l a false ((l.length : Int) - a - 8)).bind fun _ => some (3, dl, sl, 0))
  else none
theorem spec_rv.Kp.far {w W : World} {g gh : Nat} (h : spec_rv.Kp w W g) (hg : w.heap.size ≤ gh) (hgl : g < w.heap.size) (j : Nat) (u : Value) : spec_rv.Kp w (W.setCell ⟨gh, j, none⟩ u) g :=
  ⟨⟨by simpa [World.setCell] using h.1.1, fun i hi hg_ hr => (Below.heap_setCell W ⟨gh, j, none⟩ u i (by show i ≠ gh; omega)).trans (h.1.2 i hi hg_ hr)⟩, h.2.setCell (Nat.le_trans (Nat.le_of_lt hgl) hg) u⟩
structure spec_rv.RK (w W : World) (g gr gh : Nat) (A : Option Addr) (c : Nat) (l : List Int) (at_ : Int) (code : Bool) (cs : Array Value) : Prop where
  k : spec_rv.Kp w W g
  s : spec_rv.At W g A c l at_ code
  r : W.heap[gr]? = some (.cells #[.int .i64 0, .int .i64 0, .slice none 0 0, .slice none 0 0, .slice none 0 0, .int .i64 0, .int .i64 0, .int .i64 0] 33 (0, 0))
  h : W.heap[gh]? = some (.cells cs 33 (0, 0))
  gl : g < w.heap.size
  gr_ : w.heap.size ≤ gr
  gh_ : w.heap.size ≤ gh
  rh : gr ≠ gh
section
variable {w W W' : World} {g gr gh : Nat} {A : Option Addr} {c : Nat} {l : List Int} {at_ at2 : Int} {code code2 : Bool} {cs : Array Value}
theorem spec_rv.RK.drewN (h : spec_rv.RK w W g gr gh A c l at_ code cs) (n : Nat) : spec_rv.RK w (W.drewN n) g gr gh A c l at_ code cs := ⟨h.k.drewN n, blk_drewN h.s n, blk_drewN h.r n, blk_drewN h.h n, h.gl, h.gr_, h.gh_, h.rh⟩
theorem spec_rv.RK.drew (h : spec_rv.RK w W g gr gh A c l at_ code cs) : spec_rv.RK w W.drew g gr gh A c l at_ code cs := ⟨h.k.drew, blk_drew h.s, blk_drew h.r, blk_drew h.h, h.gl, h.gr_, h.gh_, h.rh⟩
theorem spec_rv.RK.call (h : spec_rv.RK w W g gr gh A c l at_ code cs) (hk : spec_rv.Kp W W' g) (hs : spec_rv.At W' g A c l at2 code2) : spec_rv.RK w W' g gr gh A c l at2 code2 cs :=
  ⟨h.k.trans hk, hs, hk.blk h.r (by have := h.gl; have := h.gr_; omega), hk.blk h.h (by have := h.gl; have := h.gh_; omega), h.gl, h.gr_, h.gh_, h.rh⟩
theorem spec_rv.RK.put (h : spec_rv.RK w W g gr gh A c l at_ code cs) (j : Nat) (u : Value) {cs' : Array Value} (e : cs.setIfInBounds j u = cs') : spec_rv.RK w (W.setCell ⟨gh, j, none⟩ u) g gr gh A c l at_ code cs' :=
  ⟨h.k.far h.gh_ h.gl j u, blk_far h.s (by have := h.gl; have := h.gh_; show g ≠ gh; omega) _, blk_far h.r h.rh _, blk_put h.h j u e, h.gl, h.gr_, h.gh_, h.rh⟩
end
set_option maxHeartbeats 8000000 in
set_option maxRecDepth 100000 in
theorem spec_rv.retry_calls (gs : Nat) (A0 : Option Addr) (c0 : Nat) (l0 : List Int) (at_ f0 ver : Int) (Ad : Option Addr) (cd dl : Nat) (As : Option Addr) (cs sl : Nat) (tA : Option Addr) (tn tc : Nat) (r1 : Int) (r2 r3 : Nat) (r4 : Int) (w0 w : World) (HB : Below w0.heap.size w0 w) (hg : w0.heap.size ≤ gs) (HG : spec_rv.At w gs A0 c0 l0 at_ false) (hi : spec_rv.In w0 A0 c0 l0) (h : spec_rv.retry l0 dl sl at_ = some (r1, r2, r3, r4)) :
    Calls Try.prog 23 #[.pointer (some ⟨gs, 0, none⟩), .agg #[.int .i64 f0, .int .i64 ver, .slice Ad dl cd, .slice As sl cs, .slice tA tn tc, .int .i64 0, .int .i64 0, .int .i64 0]] w fun e w' => (∃ (ver : Int) (Ad : Option Addr) (cd : Nat) (As : Option Addr) (cs : Nat) (vA : Option Addr) (vn vc : Nat) (n : Int), e = .returned (.tuple #[.agg #[.int .i64 r1, .int .i64 ver, .slice Ad r2 cd, .slice As r3 cs, .slice vA vn vc, .int .i64 0, .int .i64 0, .int .i64 0], .int .i64 n, .int .i64 r4])) ∧ spec_rv.Kp w w' gs := by
  have huR := Try.underlying33
  have HGS := Aside0.mk (blk_lt (show w.heap[gs]? = some (.cells #[.slice A0 l0.length c0, .int .i64 at_, .bool false] 38 (0, 0)) from HG))
  have HB0 := Aside0.mk HB
  have HI := Aside0.mk hi
  have HGG := Aside0.mk hg
  have HG' := Aside0.mk HG
  clear HB hi hg HG
  unfold spec_rv.retry at h
  by_cases hb : 0 ≤ at_ ∧ at_ ≤ l0.length ∧ l0.length ≤ 1000000
  · rw [if_pos hb] at h
    obtain ⟨b1, b2, b3⟩ := hb
    obtain ⟨n1, hn1⟩ : ∃ n : Int, n = (l0.length : Int) - at_ := ⟨_, rfl⟩
    rw [← hn1] at h
    obtain ⟨n, hn⟩ : ∃ n : Int, n = n1 - 8 := ⟨_, rfl⟩
    rw [← hn] at h
    have e0 : IntKind.i64.wrap ((l0.length : Int) - at_) = n1 := by rw [hn1]; exact IntWalk.i64_in _ (by omega)
    have e1 : IntKind.i64.wrap (n1 - 8) = n := by rw [hn]; exact IntWalk.i64_in _ (by omega)
    clear hn1 hn b1 b2 b3
    have H := Aside0.mk h
    clear h
    go_enter Try.func23, Try.ntmps23
    go_upto_region 1 with (first | ((with_reducible refine gate_dst (N := 3) rfl ?_); refine box_event ?hg (N := 3) ?hd (cs := #[.int .i64 f0, .int .i64 ver, .slice Ad dl cd, .slice As sl cs, .slice tA tn tc, .int .i64 0, .int .i64 0, .int .i64 0]) (t := 33) ?hr ?_; (case hd => rfl); (case hg => rfl); (case hr => first | (go_simp; done) | (go_simp; rfl)); intro gh hg w3 hbox hb; have HGH := Aside0.mk (show w.heap.size ≤ gh from by rw [hg]; exact (show spec_rv.Kp w _ gs from by first | exact spec_rv.Kp.refl _ _ | exact (spec_rv.Kp.refl _ _).drew | exact (spec_rv.Kp.refl _ _).drewN _).1.1); have HK1 := Aside0.mk (spec_rv.Kp.step (show spec_rv.Kp w _ gs from by first | exact spec_rv.Kp.refl _ _ | exact (spec_rv.Kp.refl _ _).drew | exact (spec_rv.Kp.refl _ _).drewN _) (Nat.le_of_lt HGS.out) hb); have HH := Aside0.mk hbox; have HG1 := Aside0.mk (show spec_rv.At w3 gs A0 c0 l0 at_ false from (blk_below (g := gs) (o := .cells #[.slice A0 l0.length c0, .int .i64 at_, .bool false] 38 (0, 0)) (by (with_reducible repeat (first | refine blk_drewN ?_ _ | refine blk_drew ?_ | refine blk_alloc ?_ _)); exact HG'.out) hb)); clear hg hbox hb) | ((with_reducible refine gate_dst (N := 4) rfl ?_); refine box_event ?hg (N := 4) ?hd (cs := #[.int .i64 0, .int .i64 0, .slice none 0 0, .slice none 0 0, .slice none 0 0, .int .i64 0, .int .i64 0, .int .i64 0]) (t := 33) ?hr ?_; (case hd => rfl); (case hg => rfl); (case hr => first | (go_simp; done) | (go_simp; rfl)); intro gr hg w4 hbox hb; have HS := Aside0.mk (show spec_rv.RK w w4 gs gr gh A0 c0 l0 at_ false #[.int .i64 f0, .int .i64 ver, .slice Ad dl cd, .slice As sl cs, .slice tA tn tc, .int .i64 0, .int .i64 0, .int .i64 0] from ⟨spec_rv.Kp.step (show spec_rv.Kp w _ gs from by first | exact HK1.out | exact HK1.out.drew | exact HK1.out.drewN _) (Nat.le_of_lt HGS.out) hb, (blk_below (g := gs) (o := .cells #[.slice A0 l0.length c0, .int .i64 at_, .bool false] 38 (0, 0)) (by (with_reducible repeat (first | refine blk_drewN ?_ _ | refine blk_drew ?_ | refine blk_alloc ?_ _)); exact HG1.out) hb), hbox, blk_below (g := gh) (o := .cells #[.int .i64 f0, .int .i64 ver, .slice Ad dl cd, .slice As sl cs, .slice tA tn tc, .int .i64 0, .int .i64 0, .int .i64 0] 33 (0, 0)) (by (with_reducible repeat (first | refine blk_drewN ?_ _ | refine blk_drew ?_ | refine blk_alloc ?_ _)); exact HH.out) hb, HGS.out, (by rw [hg]; exact (show spec_rv.Kp w _ gs from by first | exact HK1.out | exact HK1.out.drew | exact HK1.out.drewN _).1.1), HGH.out, (by rw [hg]; exact Ne.symm (Nat.ne_of_lt (blk_lt (show (_ : World).heap[gh]? = some (.cells #[.int .i64 f0, .int .i64 ver, .slice Ad dl cd, .slice As sl cs, .slice tA tn tc, .int .i64 0, .int .i64 0, .int .i64 0] 33 (0, 0)) from by (with_reducible repeat (first | refine blk_drewN ?_ _ | refine blk_drew ?_ | refine blk_alloc ?_ _)); exact HH.out))))⟩); clear HK1 HH HG1 HGH hg hbox hb; obtain ⟨y1, f2, y3, f4, y5, f6⟩ := spec_rv.c3 HS.out.s; obtain ⟨y7, f8, y9, f10, y11, f12, y13, f14, y15, f16, y17, f18, y19, f20, y21, f22⟩ := spec_rv.c8 HS.out.h; obtain ⟨y23, f24, y25, f26, y27, f28, y29, f30, y31, f32, y33, f34, y35, f36, y37, f38⟩ := spec_rv.c8 HS.out.r))
    refine spec_rv.cwp_seal (fun W_ => spec_rv.RK w W_ gs gr gh A0 c0 l0 at_ false #[.int .i64 f0, .int .i64 ver, .slice Ad dl cd, .slice As sl cs, .slice tA tn tc, .int .i64 0, .int .i64 0, .int .i64 0]) (by first | done | exact HS.out | exact spec_rv.RK.drewN HS.out _ | exact spec_rv.RK.drew HS.out | ((with_reducible repeat (first | exact HS.out | apply spec_rv.RK.drewN | apply spec_rv.RK.drew)); done)) ?_
    clear HS y1 f2 y3 f4 y5 f6 y7 f8 y9 f10 y11 f12 y13 f14 y15 f16 y17 f18 y19 f20 y21 f22 y23 f24 y25 f26 y27 f28 y29 f30 y31 f32 y33 f34 y35 f36 y37 f38
    rintro w5 hs_
    have HS := Aside0.mk hs_
    clear hs_
    obtain ⟨y39, f40, y41, f42, y43, f44⟩ := spec_rv.c3 HS.out.s
    obtain ⟨y45, f46, y47, f48, y49, f50, y51, f52, y53, f54, y55, f56, y57, f58, y59, f60⟩ := spec_rv.c8 HS.out.h
    obtain ⟨y61, f62, y63, f64, y65, f66, y67, f68, y69, f70, y71, f72, y73, f74, y75, f76⟩ := spec_rv.c8 HS.out.r
    go_wp2
    go_quiet (fail)
    refine spec_rv.next_ (by assumption) ?_
    have h := H.out
    clear H
    have ne1 : gh ≠ gr := HS.out.rh.symm
    have ne2 : gr ≠ gh := HS.out.rh
    have ne3 : gs ≠ gr := Nat.ne_of_lt (Nat.lt_of_lt_of_le HS.out.gl HS.out.gr_)
    have ne4 : gr ≠ gs := ne3.symm
    by_cases c1 : n < 1
    · rw [if_pos c1] at h
      have q1 : decide (n < 1) = true := decide_eq_true c1
      clear c1
      simp only [Option.some.injEq, Prod.mk.injEq] at h
      obtain ⟨rfl, rfl, rfl, rfl⟩ := h
      go_wp2
      try (go_region; all_goals go_wp2)
      all_goals (refine bodyPost_ret (results_ctt rfl _ _ gr 33 #[.int .i64 0, .int .i64 0, .slice none 0 0, .slice none 0 0, .slice none 0 0, .int .i64 0, .int .i64 0, .int .i64 0] (0, 0) _ rfl (by (with_reducible repeat (first | refine blk_drewN ?_ _ | refine blk_drew ?_ | refine blk_alloc ?_ _)); refine blk_put (cs := #[.int .i64 0, .int .i64 0, .slice none 0 0, .slice none 0 0, .slice none 0 0, .int .i64 0, .int .i64 0, .int .i64 0]) ?_ 7 _ rfl; (with_reducible repeat (first | refine blk_drewN ?_ _ | refine blk_drew ?_ | refine blk_alloc ?_ _)); refine blk_put (cs := #[.int .i64 0, .int .i64 0, .slice none 0 0, .slice none 0 0, .slice none 0 0, .int .i64 0, .int .i64 0, .int .i64 0]) ?_ 6 _ rfl; (with_reducible repeat (first | refine blk_drewN ?_ _ | refine blk_drew ?_ | refine blk_alloc ?_ _)); refine blk_put (cs := #[.int .i64 0, .int .i64 0, .slice none 0 0, .slice none 0 0, .slice none 0 0, .int .i64 0, .int .i64 0, .int .i64 0]) ?_ 5 _ rfl; (with_reducible repeat (first | refine blk_drewN ?_ _ | refine blk_drew ?_ | refine blk_alloc ?_ _)); refine blk_put (cs := #[.int .i64 0, .int .i64 0, .slice none 0 0, .slice none 0 0, .slice none 0 0, .int .i64 0, .int .i64 0, .int .i64 0]) ?_ 4 _ rfl; (with_reducible repeat (first | refine blk_drewN ?_ _ | refine blk_drew ?_ | refine blk_alloc ?_ _)); refine blk_put (cs := #[.int .i64 0, .int .i64 0, .slice none 0 0, .slice none 0 0, .slice none 0 0, .int .i64 0, .int .i64 0, .int .i64 0]) ?_ 3 _ rfl; (with_reducible repeat (first | refine blk_drewN ?_ _ | refine blk_drew ?_ | refine blk_alloc ?_ _)); refine blk_put (cs := #[.int .i64 0, .int .i64 0, .slice none 0 0, .slice none 0 0, .slice none 0 0, .int .i64 0, .int .i64 0, .int .i64 0]) ?_ 2 _ rfl; (with_reducible repeat (first | refine blk_drewN ?_ _ | refine blk_drew ?_ | refine blk_alloc ?_ _)); refine blk_put (cs := #[.int .i64 0, .int .i64 0, .slice none 0 0, .slice none 0 0, .slice none 0 0, .int .i64 0, .int .i64 0, .int .i64 0]) ?_ 1 _ rfl; (with_reducible repeat (first | refine blk_drewN ?_ _ | refine blk_drew ?_ | refine blk_alloc ?_ _)); refine blk_put (cs := #[.int .i64 0, .int .i64 0, .slice none 0 0, .slice none 0 0, .slice none 0 0, .int .i64 0, .int .i64 0, .int .i64 0]) ?_ 0 _ rfl; (with_reducible repeat (first | refine blk_drewN ?_ _ | refine blk_drew ?_ | refine blk_alloc ?_ _)); exact HS.out.r) Try.underlying33 rfl (by kernel_rfl)) rfl ?_)
      all_goals (exact ⟨⟨0, none, 0, none, 0, none, 0, 0, _, rfl⟩, (by (with_reducible repeat (first | exact HS.out.k | refine spec_rv.Kp.far ?_ HS.out.gr_ HS.out.gl _ _ | refine spec_rv.Kp.drewN ?_ _ | refine spec_rv.Kp.drew ?_)); first | done | exact HS.out.k)⟩)
    · rw [if_neg c1] at h
      have q1 : decide (n < 1) = false := decide_eq_false c1
      clear c1
      by_cases c2 : 64 < n
      · rw [if_pos c2] at h
        have q2 : decide (64 < n) = true := decide_eq_true c2
        clear c2
        simp only [Option.some.injEq, Prod.mk.injEq] at h
        obtain ⟨rfl, rfl, rfl, rfl⟩ := h
        go_wp2
        try (go_region; all_goals go_wp2)
        all_goals (refine bodyPost_ret (results_ctt rfl _ _ gr 33 #[.int .i64 0, .int .i64 0, .slice none 0 0, .slice none 0 0, .slice none 0 0, .int .i64 0, .int .i64 0, .int .i64 0] (0, 0) _ rfl (by (with_reducible repeat (first | refine blk_drewN ?_ _ | refine blk_drew ?_ | refine blk_alloc ?_ _)); refine blk_put (cs := #[.int .i64 0, .int .i64 0, .slice none 0 0, .slice none 0 0, .slice none 0 0, .int .i64 0, .int .i64 0, .int .i64 0]) ?_ 7 _ rfl; (with_reducible repeat (first | refine blk_drewN ?_ _ | refine blk_drew ?_ | refine blk_alloc ?_ _)); refine blk_put (cs := #[.int .i64 0, .int .i64 0, .slice none 0 0, .slice none 0 0, .slice none 0 0, .int .i64 0, .int .i64 0, .int .i64 0]) ?_ 6 _ rfl; (with_reducible repeat (first | refine blk_drewN ?_ _ | refine blk_drew ?_ | refine blk_alloc ?_ _)); refine blk_put (cs := #[.int .i64 0, .int .i64 0, .slice none 0 0, .slice none 0 0, .slice none 0 0, .int .i64 0, .int .i64 0, .int .i64 0]) ?_ 5 _ rfl; (with_reducible repeat (first | refine blk_drewN ?_ _ | refine blk_drew ?_ | refine blk_alloc ?_ _)); refine blk_put (cs := #[.int .i64 0, .int .i64 0, .slice none 0 0, .slice none 0 0, .slice none 0 0, .int .i64 0, .int .i64 0, .int .i64 0]) ?_ 4 _ rfl; (with_reducible repeat (first | refine blk_drewN ?_ _ | refine blk_drew ?_ | refine blk_alloc ?_ _)); refine blk_put (cs := #[.int .i64 0, .int .i64 0, .slice none 0 0, .slice none 0 0, .slice none 0 0, .int .i64 0, .int .i64 0, .int .i64 0]) ?_ 3 _ rfl; (with_reducible repeat (first | refine blk_drewN ?_ _ | refine blk_drew ?_ | refine blk_alloc ?_ _)); refine blk_put (cs := #[.int .i64 0, .int .i64 0, .slice none 0 0, .slice none 0 0, .slice none 0 0, .int .i64 0, .int .i64 0, .int .i64 0]) ?_ 2 _ rfl; (with_reducible repeat (first | refine blk_drewN ?_ _ | refine blk_drew ?_ | refine blk_alloc ?_ _)); refine blk_put (cs := #[.int .i64 0, .int .i64 0, .slice none 0 0, .slice none 0 0, .slice none 0 0, .int .i64 0, .int .i64 0, .int .i64 0]) ?_ 1 _ rfl; (with_reducible repeat (first | refine blk_drewN ?_ _ | refine blk_drew ?_ | refine blk_alloc ?_ _)); refine blk_put (cs := #[.int .i64 0, .int .i64 0, .slice none 0 0, .slice none 0 0, .slice none 0 0, .int .i64 0, .int .i64 0, .int .i64 0]) ?_ 0 _ rfl; (with_reducible repeat (first | refine blk_drewN ?_ _ | refine blk_drew ?_ | refine blk_alloc ?_ _)); exact HS.out.r) Try.underlying33 rfl (by kernel_rfl)) rfl ?_)
        all_goals (exact ⟨⟨0, none, 0, none, 0, none, 0, 0, _, rfl⟩, (by (with_reducible repeat (first | exact HS.out.k | refine spec_rv.Kp.far ?_ HS.out.gr_ HS.out.gl _ _ | refine spec_rv.Kp.drewN ?_ _ | refine spec_rv.Kp.drew ?_)); first | done | exact HS.out.k)⟩)
      · rw [if_neg c2] at h
        have q2 : decide (64 < n) = false := decide_eq_false c2
        clear c2
        obtain ⟨⟨v, p, d⟩, h_, h⟩ := Option.bind_eq_some_iff.1 h
        have HT := Aside0.mk h_
        clear h_
        try dsimp only at h
        simp only [Option.some.injEq, Prod.mk.injEq] at h
        obtain ⟨rfl, rfl, rfl, rfl⟩ := h
        go_upto_region 7 with (fail)
        refine spec_rv.cwp_seal (fun W_ => spec_rv.RK w W_ gs gr gh A0 c0 l0 at_ false #[.int .i64 3, .int .i64 ver, .slice Ad dl cd, .slice As sl cs, .slice tA tn tc, .int .i64 0, .int .i64 0, .int .i64 0]) (by (with_reducible repeat (first | exact HS.out | apply spec_rv.RK.drewN | apply spec_rv.RK.drew)); refine spec_rv.RK.put (cs := #[.int .i64 f0, .int .i64 ver, .slice Ad dl cd, .slice As sl cs, .slice tA tn tc, .int .i64 0, .int .i64 0, .int .i64 0]) ?_ 0 _ rfl; first | done | exact HS.out | exact spec_rv.RK.drewN HS.out _ | exact spec_rv.RK.drew HS.out | ((with_reducible repeat (first | exact HS.out | apply spec_rv.RK.drewN | apply spec_rv.RK.drew)); done)) ?_
        clear HS y39 f40 y41 f42 y43 f44 y45 f46 y47 f48 y49 f50 y51 f52 y53 f54 y55 f56 y57 f58 y59 f60 y61 f62 y63 f64 y65 f66 y67 f68 y69 f70 y71 f72 y73 f74 y75 f76
        rintro w6 hs_
        have HS := Aside0.mk hs_
        clear hs_
        obtain ⟨y77, f78, y79, f80, y81, f82⟩ := spec_rv.c3 HS.out.s
        obtain ⟨y83, f84, y85, f86, y87, f88, y89, f90, y91, f92, y93, f94, y95, f96, y97, f98⟩ := spec_rv.c8 HS.out.h
        obtain ⟨y99, f100, y101, f102, y103, f104, y105, f106, y107, f108, y109, f110, y111, f112, y113, f114⟩ := spec_rv.c8 HS.out.r
        go_upto_region 8 with (first | (go_at_call 21; refine (spec_rv.tk_calls gs A0 c0 l0 at_ false n p d v v.length w0 _ (HB0.out.trans ((show spec_rv.RK w _ gs gr gh A0 c0 l0 at_ false #[.int .i64 3, .int .i64 ver, .slice Ad dl cd, .slice As sl cs, .slice tA tn tc, .int .i64 0, .int .i64 0, .int .i64 0] from (by first | done | exact HS.out | exact spec_rv.RK.drewN HS.out _ | exact spec_rv.RK.drew HS.out | ((with_reducible repeat (first | exact HS.out | apply spec_rv.RK.drewN | apply spec_rv.RK.drew)); done))).k.below HGG.out)) HGG.out (show spec_rv.At _ gs A0 c0 l0 at_ false from (show spec_rv.RK w _ gs gr gh A0 c0 l0 at_ false #[.int .i64 3, .int .i64 ver, .slice Ad dl cd, .slice As sl cs, .slice tA tn tc, .int .i64 0, .int .i64 0, .int .i64 0] from (by first | done | exact HS.out | exact spec_rv.RK.drewN HS.out _ | exact spec_rv.RK.drew HS.out | ((with_reducible repeat (first | exact HS.out | apply spec_rv.RK.drewN | apply spec_rv.RK.drew)); done))).s) HI.out HT.out rfl).mono ?_; rintro e w7 ⟨A5, c5, rfl, hc_, hcl_, hg_, hk_⟩; clear hc_ hcl_; have hs_ := Aside0.mk (show spec_rv.RK w w7 gs gr gh A0 c0 l0 p d #[.int .i64 3, .int .i64 ver, .slice Ad dl cd, .slice As sl cs, .slice tA tn tc, .int .i64 0, .int .i64 0, .int .i64 0] from spec_rv.RK.call (show spec_rv.RK w _ gs gr gh A0 c0 l0 at_ false #[.int .i64 3, .int .i64 ver, .slice Ad dl cd, .slice As sl cs, .slice tA tn tc, .int .i64 0, .int .i64 0, .int .i64 0] from (by first | done | exact HS.out | exact spec_rv.RK.drewN HS.out _ | exact spec_rv.RK.drew HS.out | ((with_reducible repeat (first | exact HS.out | apply spec_rv.RK.drewN | apply spec_rv.RK.drew)); done))) hk_ hg_); clear HS; have HS := hs_; clear hs_ hg_ hk_; clear y77 f78 y79 f80 y81 f82 y83 f84 y85 f86 y87 f88 y89 f90 y91 f92 y93 f94 y95 f96 y97 f98 y99 f100 y101 f102 y103 f104 y105 f106 y107 f108 y109 f110 y111 f112 y113 f114; obtain ⟨y115, f116, y117, f118, y119, f120⟩ := spec_rv.c3 HS.out.s; obtain ⟨y121, f122, y123, f124, y125, f126, y127, f128, y129, f130, y131, f132, y133, f134, y135, f136⟩ := spec_rv.c8 HS.out.h; obtain ⟨y137, f138, y139, f140, y141, f142, y143, f144, y145, f146, y147, f148, y149, f150, y151, f152⟩ := spec_rv.c8 HS.out.r))
        refine spec_rv.cwp_seal (fun W_ => spec_rv.RK w W_ gs gr gh A0 c0 l0 p d #[.int .i64 3, .int .i64 ver, .slice Ad dl cd, .slice As sl cs, .slice A5 v.length c5, .int .i64 0, .int .i64 0, .int .i64 0]) (by (with_reducible repeat (first | exact HS.out | apply spec_rv.RK.drewN | apply spec_rv.RK.drew)); refine spec_rv.RK.put (cs := #[.int .i64 3, .int .i64 ver, .slice Ad dl cd, .slice As sl cs, .slice tA tn tc, .int .i64 0, .int .i64 0, .int .i64 0]) ?_ 4 _ rfl; first | done | exact HS.out | exact spec_rv.RK.drewN HS.out _ | exact spec_rv.RK.drew HS.out | ((with_reducible repeat (first | exact HS.out | apply spec_rv.RK.drewN | apply spec_rv.RK.drew)); done)) ?_
        clear HS y115 f116 y117 f118 y119 f120 y121 f122 y123 f124 y125 f126 y127 f128 y129 f130 y131 f132 y133 f134 y135 f136 y137 f138 y139 f140 y141 f142 y143 f144 y145 f146 y147 f148 y149 f150 y151 f152
        rintro w8 hs_
        have HS := Aside0.mk hs_
        clear hs_
        obtain ⟨y153, f154, y155, f156, y157, f158⟩ := spec_rv.c3 HS.out.s
        obtain ⟨y159, f160, y161, f162, y163, f164, y165, f166, y167, f168, y169, f170, y171, f172, y173, f174⟩ := spec_rv.c8 HS.out.h
        obtain ⟨y175, f176, y177, f178, y179, f180, y181, f182, y183, f184, y185, f186, y187, f188, y189, f190⟩ := spec_rv.c8 HS.out.r
        go_wp2
        try (go_region; all_goals go_wp2)
        all_goals (refine bodyPost_ret (results_ctt rfl _ _ gr 33 #[.int .i64 3, .int .i64 ver, .slice Ad dl cd, .slice As sl cs, .slice A5 v.length c5, .int .i64 0, .int .i64 0, .int .i64 0] (0, 0) _ rfl (by (with_reducible repeat (first | refine blk_drewN ?_ _ | refine blk_drew ?_ | refine blk_alloc ?_ _)); refine blk_put (cs := #[.int .i64 3, .int .i64 ver, .slice Ad dl cd, .slice As sl cs, .slice A5 v.length c5, .int .i64 0, .int .i64 0, .int .i64 0]) ?_ 7 _ rfl; (with_reducible repeat (first | refine blk_drewN ?_ _ | refine blk_drew ?_ | refine blk_alloc ?_ _)); refine blk_put (cs := #[.int .i64 3, .int .i64 ver, .slice Ad dl cd, .slice As sl cs, .slice A5 v.length c5, .int .i64 0, .int .i64 0, .int .i64 0]) ?_ 6 _ rfl; (with_reducible repeat (first | refine blk_drewN ?_ _ | refine blk_drew ?_ | refine blk_alloc ?_ _)); refine blk_put (cs := #[.int .i64 3, .int .i64 ver, .slice Ad dl cd, .slice As sl cs, .slice A5 v.length c5, .int .i64 0, .int .i64 0, .int .i64 0]) ?_ 5 _ rfl; (with_reducible repeat (first | refine blk_drewN ?_ _ | refine blk_drew ?_ | refine blk_alloc ?_ _)); refine blk_put (cs := #[.int .i64 3, .int .i64 ver, .slice Ad dl cd, .slice As sl cs, .slice none 0 0, .int .i64 0, .int .i64 0, .int .i64 0]) ?_ 4 _ rfl; (with_reducible repeat (first | refine blk_drewN ?_ _ | refine blk_drew ?_ | refine blk_alloc ?_ _)); refine blk_put (cs := #[.int .i64 3, .int .i64 ver, .slice Ad dl cd, .slice none 0 0, .slice none 0 0, .int .i64 0, .int .i64 0, .int .i64 0]) ?_ 3 _ rfl; (with_reducible repeat (first | refine blk_drewN ?_ _ | refine blk_drew ?_ | refine blk_alloc ?_ _)); refine blk_put (cs := #[.int .i64 3, .int .i64 ver, .slice none 0 0, .slice none 0 0, .slice none 0 0, .int .i64 0, .int .i64 0, .int .i64 0]) ?_ 2 _ rfl; (with_reducible repeat (first | refine blk_drewN ?_ _ | refine blk_drew ?_ | refine blk_alloc ?_ _)); refine blk_put (cs := #[.int .i64 3, .int .i64 0, .slice none 0 0, .slice none 0 0, .slice none 0 0, .int .i64 0, .int .i64 0, .int .i64 0]) ?_ 1 _ rfl; (with_reducible repeat (first | refine blk_drewN ?_ _ | refine blk_drew ?_ | refine blk_alloc ?_ _)); refine blk_put (cs := #[.int .i64 0, .int .i64 0, .slice none 0 0, .slice none 0 0, .slice none 0 0, .int .i64 0, .int .i64 0, .int .i64 0]) ?_ 0 _ rfl; (with_reducible repeat (first | refine blk_drewN ?_ _ | refine blk_drew ?_ | refine blk_alloc ?_ _)); exact HS.out.r) Try.underlying33 rfl (by kernel_rfl)) rfl ?_)
        all_goals (exact ⟨⟨ver, Ad, cd, As, cs, A5, v.length, c5, _, rfl⟩, (by (with_reducible repeat (first | exact HS.out.k | refine spec_rv.Kp.far ?_ HS.out.gr_ HS.out.gl _ _ | refine spec_rv.Kp.drewN ?_ _ | refine spec_rv.Kp.drew ?_)); first | done | exact HS.out.k)⟩)
  · rw [if_neg hb] at h; exact absurd h (by simp)

def spec_rv.quo (b : Int) : Int := (wrap64 (b - 192)).tdiv 16
theorem spec_rv.quo_in (b : Int) : wrap64 ((wrap64 (b - 192)).tdiv 16) = (wrap64 (b - 192)).tdiv 16 := by
  refine IntWalk.wrap64_in _ ?_
  have h : -9223372036854775808 ≤ wrap64 (b - 192) ∧ wrap64 (b - 192) ≤ 9223372036854775807 := by unfold wrap64; omega
  generalize wrap64 (b - 192) = y at h ⊢
  rcases Int.le_total 0 y with h0 | h0
  · rw [Int.tdiv_eq_ediv_of_nonneg h0]; omega
  · have h1 := Int.neg_tdiv y 16
    rw [Int.tdiv_eq_ediv_of_nonneg (by omega : 0 ≤ -y)] at h1
    omega
def spec_rv.tail (k : Nat) (l : List Int) (form : Int) (dl sl : Nat) (a : Int) (d : Bool) : Option (Int × Nat × Nat × Int) :=
  (spec_rv.num k l a d).bind fun n => if n.2.2 = true then some (0, 0, 0, 2) else if n.1 < 12 ∨ 1508 < n.1 then some (0, 0, 0, 3) else (spec_rv.take l n.2.1 false n.1).bind fun t => if t.2.2 = true then some (0, 0, 0, 2) else some (form, dl, sl, 0)
def spec_rv.rest2 (k : Nat) (l : List Int) (f ver : Int) (dl sl : Nat) (a : Int) : Option (Int × Nat × Nat × Int) :=
  if ver = 0 then (if f = 128 then (spec_rv.vers k l a).bind fun o => if o.length = 0 then some (0, 0, 0, 3) else some (5, dl, sl, 0) else some (0, 0, 0, 3))
  else if f < 192 ∨ spec_rv.quo f = 1 then some (0, 0, 0, 3)
  else if spec_rv.quo f = 3 then spec_rv.retry l dl sl a
  else if spec_rv.quo f = 0 then (spec_rv.num k l a false).bind fun n => if n.2.2 = true then some (0, 0, 0, 2) else if 64 < n.1 then some (0, 0, 0, 3) else (spec_rv.take l n.2.1 false n.1).bind fun t => spec_rv.tail k l 1 dl sl t.2.1 t.2.2
  else spec_rv.tail k l 2 dl sl a false
def spec_rv.rest1 (k : Nat) (l : List Int) (f a : Int) : Option (Int × Nat × Nat × Int) :=
  (spec_rv.fixed k l a false 4).bind fun v => (spec_rv.fixed k l v.2.1 v.2.2 1).bind fun n => if n.2.2 = true then some (0, 0, 0, 2) else if 8 < n.1 then some (0, 0, 0, 3)
    else (spec_rv.take l n.2.1 false n.1).bind fun d => (spec_rv.fixed k l d.2.1 d.2.2 1).bind fun m => if m.2.2 = true then some (0, 0, 0, 2) else if 8 < m.1 then some (0, 0, 0, 3)
    else (spec_rv.take l m.2.1 false m.1).bind fun s => if s.2.2 = true then some (0, 0, 0, 2) else spec_rv.rest2 k l f v.1 d.1.length s.1.length s.2.1
def spec_rv.peek (k : Nat) (l : List Int) : Option (Int × Nat × Nat × Int) :=
  (spec_rv.fixed k l 0 false 1).bind fun f => if f.2.2 = true then some (0, 0, 0, 2) else if f.1 < 64 then some (0, 0, 0, 3)
    else if f.1 < 128 then (spec_rv.take l f.2.1 false 0).bind fun v => if v.2.2 = true then some (0, 0, 0, 2) else if (l.length : Int) - v.2.1 < 12 then some (0, 0, 0, 2) else some (4, v.1.length, 0, 0)
    else spec_rv.rest1 k l f.1 f.2.1
/-- What l04Peek knows ahead of the header's block: gr: the result's block, gn: the empty header's, gs: the reader's. -/
structure spec_rv.P0 (w W : World) (gr gn gs : Nat) (A : Option Addr) (c : Nat) (l : List Int) (at_ : Int) (code : Bool) : Prop where
  b : Below w.heap.size w W
  r : W.heap[gr]? = some (.cells #[.int .i64 0, .int .i64 0, .slice none 0 0, .slice none 0 0, .slice none 0 0, .int .i64 0, .int .i64 0, .int .i64 0] 33 (0, 0))
  n : W.heap[gn]? = some (.cells #[.int .i64 0, .int .i64 0, .slice none 0 0, .slice none 0 0, .slice none 0 0, .int .i64 0, .int .i64 0, .int .i64 0] 33 (0, 0))
  s : spec_rv.At W gs A c l at_ code
  gr_ : w.heap.size ≤ gr
  gn_ : w.heap.size ≤ gn
  gs_ : w.heap.size ≤ gs
  rn : gr ≠ gn
  rs : gr ≠ gs
  ns : gn ≠ gs
structure spec_rv.PK (w W : World) (gr gn gs gh : Nat) (A : Option Addr) (c : Nat) (l : List Int) (at_ : Int) (code : Bool) (cs : Array Value) : Prop where
  z : spec_rv.P0 w W gr gn gs A c l at_ code
  h : W.heap[gh]? = some (.cells cs 33 (0, 0))
  gh_ : w.heap.size ≤ gh
  rh : gr ≠ gh
  nh : gn ≠ gh
  sh : gs ≠ gh
section
variable {w W W' : World} {gr gn gs gh : Nat} {A : Option Addr} {c : Nat} {l : List Int} {at_ at2 : Int} {code code2 : Bool} {cs : Array Value}
theorem spec_rv.P0.drewN (h : spec_rv.P0 w W gr gn gs A c l at_ code) (n : Nat) : spec_rv.P0 w (W.drewN n) gr gn gs A c l at_ code := ⟨pw_below_drewN h.b n, blk_drewN h.r n, blk_drewN h.n n, blk_drewN h.s n, h.gr_, h.gn_, h.gs_, h.rn, h.rs, h.ns⟩
theorem spec_rv.P0.drew (h : spec_rv.P0 w W gr gn gs A c l at_ code) : spec_rv.P0 w W.drew gr gn gs A c l at_ code := ⟨h.b.drew, blk_drew h.r, blk_drew h.n, blk_drew h.s, h.gr_, h.gn_, h.gs_, h.rn, h.rs, h.ns⟩
theorem spec_rv.P0.below (h : spec_rv.P0 w W gr gn gs A c l at_ code) (hb : Below W.heap.size W W') : spec_rv.P0 w W' gr gn gs A c l at_ code :=
  ⟨below_step h.b hb, blk_below h.r hb, blk_below h.n hb, blk_below (o := .cells #[.slice A l.length c, .int .i64 at_, .bool code] 38 (0, 0)) h.s hb, h.gr_, h.gn_, h.gs_, h.rn, h.rs, h.ns⟩
theorem spec_rv.P0.call (h : spec_rv.P0 w W gr gn gs A c l at_ code) (hk : spec_rv.Kp W W' gs) (hs : spec_rv.At W' gs A c l at2 code2) : spec_rv.P0 w W' gr gn gs A c l at2 code2 :=
  ⟨h.b.trans (hk.below h.gs_), hk.blk h.r h.rs, hk.blk h.n h.ns, hs, h.gr_, h.gn_, h.gs_, h.rn, h.rs, h.ns⟩
theorem spec_rv.P0.far (h : spec_rv.P0 w W gr gn gs A c l at_ code) (g_ : w.heap.size ≤ gh) (rh : gr ≠ gh) (nh : gn ≠ gh) (sh : gs ≠ gh) (j : Nat) (u : Value) : spec_rv.P0 w (W.setCell ⟨gh, j, none⟩ u) gr gn gs A c l at_ code :=
  ⟨below_set h.b g_, blk_far h.r rh _, blk_far h.n nh _, blk_far h.s sh _, h.gr_, h.gn_, h.gs_, h.rn, h.rs, h.ns⟩
theorem spec_rv.PK.drewN (h : spec_rv.PK w W gr gn gs gh A c l at_ code cs) (n : Nat) : spec_rv.PK w (W.drewN n) gr gn gs gh A c l at_ code cs := ⟨h.z.drewN n, blk_drewN h.h n, h.gh_, h.rh, h.nh, h.sh⟩
theorem spec_rv.PK.drew (h : spec_rv.PK w W gr gn gs gh A c l at_ code cs) : spec_rv.PK w W.drew gr gn gs gh A c l at_ code cs := ⟨h.z.drew, blk_drew h.h, h.gh_, h.rh, h.nh, h.sh⟩
theorem spec_rv.PK.below (h : spec_rv.PK w W gr gn gs gh A c l at_ code cs) (hb : Below W.heap.size W W') : spec_rv.PK w W' gr gn gs gh A c l at_ code cs := ⟨h.z.below hb, blk_below h.h hb, h.gh_, h.rh, h.nh, h.sh⟩
theorem spec_rv.PK.call (h : spec_rv.PK w W gr gn gs gh A c l at_ code cs) (hk : spec_rv.Kp W W' gs) (hs : spec_rv.At W' gs A c l at2 code2) : spec_rv.PK w W' gr gn gs gh A c l at2 code2 cs := ⟨h.z.call hk hs, hk.blk h.h h.sh.symm, h.gh_, h.rh, h.nh, h.sh⟩
theorem spec_rv.PK.put (h : spec_rv.PK w W gr gn gs gh A c l at_ code cs) (j : Nat) (u : Value) {cs' : Array Value} (e : cs.setIfInBounds j u = cs') : spec_rv.PK w (W.setCell ⟨gh, j, none⟩ u) gr gn gs gh A c l at_ code cs' :=
  ⟨h.z.far h.gh_ h.rh h.nh h.sh j u, blk_put h.h j u e, h.gh_, h.rh, h.nh, h.sh⟩
theorem spec_rv.PK.mk0 (h : spec_rv.P0 w W gr gn gs A c l at_ code) (hb : Below W.heap.size W W') (hg : gh = W.heap.size) (hx : W'.heap[gh]? = some (.cells cs 33 (0, 0))) : spec_rv.PK w W' gr gn gs gh A c l at_ code cs :=
  ⟨h.below hb, hx, by rw [hg]; exact below_size h.b, by rw [hg]; exact Nat.ne_of_lt (blk_lt h.r), by rw [hg]; exact Nat.ne_of_lt (blk_lt h.n), by rw [hg]; exact Nat.ne_of_lt (blk_lt (show W.heap[gs]? = some (.cells #[.slice A l.length c, .int .i64 at_, .bool code] 38 (0, 0)) from h.s))⟩
end
set_option maxHeartbeats 8000000 in
set_option maxRecDepth 100000 in
theorem spec_rv.peek_calls (k : Nat) (A0 : Option Addr) (c0 : Nat) (l0 : List Int) (r1 : Int) (r2 r3 : Nat) (r4 : Int) (w : World) (hi : spec_rv.In w A0 c0 l0) (h : spec_rv.peek k l0 = some (r1, r2, r3, r4)) :
    Calls Try.prog 16 #[.slice A0 l0.length c0, .int .i64 0] w fun e w' => (∃ (ver : Int) (Ad : Option Addr) (cd : Nat) (As : Option Addr) (cs : Nat) (vA : Option Addr) (vn vc : Nat) (n : Int), e = .returned (.tuple #[.agg #[.int .i64 r1, .int .i64 ver, .slice Ad r2 cd, .slice As r3 cs, .slice vA vn vc, .int .i64 0, .int .i64 0, .int .i64 0], .int .i64 n, .int .i64 r4])) ∧ Below w.heap.size w w' := by
  have huR := Try.underlying33
  have HI := Aside0.mk hi
  clear hi
  have HB := Aside0.mk (Below.refl w.heap.size w)
  unfold spec_rv.peek at h
  obtain ⟨⟨f, p, d⟩, h1, h⟩ := Option.bind_eq_some_iff.1 h
  dsimp only at h
  have H1 := Aside0.mk h1
  have H := Aside0.mk h
  clear h h1
  go_enter Try.func16, Try.ntmps16
  go_upto_region 2 with (first | ((with_reducible refine gate_dst (N := 4) rfl ?_); refine box_event ?hg (N := 4) ?hd (cs := #[.int .i64 0, .int .i64 0, .slice none 0 0, .slice none 0 0, .slice none 0 0, .int .i64 0, .int .i64 0, .int .i64 0]) (t := 33) ?hr ?_; (case hd => rfl); (case hg => rfl); (case hr => first | (go_simp; done) | (go_simp; rfl)); intro gr hg w3 hbox hb; have GE_BR := Aside0.mk (show w.heap.size ≤ gr from by rw [hg]; exact below_size (by repeat (first | (with_reducible first | exact HB.out | apply below_alloc | apply pw_below_drewN | apply below_drew1) | exact HB.out))); have m0_ := Aside0.mk (show Below w.heap.size w w3 from below_step (by repeat (first | (with_reducible first | exact HB.out | apply below_alloc | apply pw_below_drewN | apply below_drew1) | exact HB.out)) hb); have m1_ := Aside0.mk (show w3.heap[gr]? = some (.cells #[.int .i64 0, .int .i64 0, .slice none 0 0, .slice none 0 0, .slice none 0 0, .int .i64 0, .int .i64 0, .int .i64 0] 33 (0, 0)) from hbox); clear HB; have HB := m0_; have BR := m1_; clear m0_ m1_; clear hb hbox hg; have z1 : w3.cell? ⟨gr, 0, none⟩ = some (.int .i64 0) := (blk_cell BR.out 0).trans rfl; have zf2 := blk_frozen BR.out 0; have z3 : w3.cell? ⟨gr, 1, none⟩ = some (.int .i64 0) := (blk_cell BR.out 1).trans rfl; have zf4 := blk_frozen BR.out 1; have z5 : w3.cell? ⟨gr, 2, none⟩ = some (.slice none 0 0) := (blk_cell BR.out 2).trans rfl; have zf6 := blk_frozen BR.out 2; have z7 : w3.cell? ⟨gr, 3, none⟩ = some (.slice none 0 0) := (blk_cell BR.out 3).trans rfl; have zf8 := blk_frozen BR.out 3; have z9 : w3.cell? ⟨gr, 4, none⟩ = some (.slice none 0 0) := (blk_cell BR.out 4).trans rfl; have zf10 := blk_frozen BR.out 4; have z11 : w3.cell? ⟨gr, 5, none⟩ = some (.int .i64 0) := (blk_cell BR.out 5).trans rfl; have zf12 := blk_frozen BR.out 5; have z13 : w3.cell? ⟨gr, 6, none⟩ = some (.int .i64 0) := (blk_cell BR.out 6).trans rfl; have zf14 := blk_frozen BR.out 6; have z15 : w3.cell? ⟨gr, 7, none⟩ = some (.int .i64 0) := (blk_cell BR.out 7).trans rfl; have zf16 := blk_frozen BR.out 7) | ((with_reducible refine gate_dst (N := 7) rfl ?_); refine box_event ?hg (N := 7) ?hd (cs := #[.int .i64 0, .int .i64 0, .slice none 0 0, .slice none 0 0, .slice none 0 0, .int .i64 0, .int .i64 0, .int .i64 0]) (t := 33) ?hr ?_; (case hd => rfl); (case hg => rfl); (case hr => first | (go_simp; done) | (go_simp; rfl)); intro gn hg w4 hbox hb; have GE_BN := Aside0.mk (show w.heap.size ≤ gn from by rw [hg]; exact below_size (by repeat (first | (with_reducible first | exact HB.out | apply below_alloc | apply pw_below_drewN | apply below_drew1 | refine below_set ?_ GE_BR.out) | exact HB.out))); have NE_BR_BN := Aside0.mk (show gr ≠ gn from by rw [hg]; exact Nat.ne_of_lt (blk_lt (show (_ : World).heap[gr]? = some (.cells #[.int .i64 0, .int .i64 0, .slice none 0 0, .slice none 0 0, .slice none 0 0, .int .i64 0, .int .i64 0, .int .i64 0] 33 (0, 0)) from (by (with_reducible repeat (first | refine blk_drewN ?_ _ | refine blk_drew ?_ | refine blk_alloc ?_ _)); exact BR.out)))); have NE_BN_BR := Aside0.mk (NE_BR_BN.out.symm); have m0_ := Aside0.mk (show Below w.heap.size w w4 from below_step (by repeat (first | (with_reducible first | exact HB.out | apply below_alloc | apply pw_below_drewN | apply below_drew1 | refine below_set ?_ GE_BR.out) | exact HB.out)) hb); have m1_ := Aside0.mk (show w4.heap[gr]? = some (.cells #[.int .i64 0, .int .i64 0, .slice none 0 0, .slice none 0 0, .slice none 0 0, .int .i64 0, .int .i64 0, .int .i64 0] 33 (0, 0)) from blk_below (g := gr) (o := .cells #[.int .i64 0, .int .i64 0, .slice none 0 0, .slice none 0 0, .slice none 0 0, .int .i64 0, .int .i64 0, .int .i64 0] 33 (0, 0)) (by (with_reducible repeat (first | refine blk_drewN ?_ _ | refine blk_drew ?_ | refine blk_alloc ?_ _)); exact BR.out) hb); have m2_ := Aside0.mk (show w4.heap[gn]? = some (.cells #[.int .i64 0, .int .i64 0, .slice none 0 0, .slice none 0 0, .slice none 0 0, .int .i64 0, .int .i64 0, .int .i64 0] 33 (0, 0)) from hbox); clear HB; clear BR; have HB := m0_; have BR := m1_; have BN := m2_; clear m0_ m1_ m2_; clear hb hbox hg; have z17 : w4.cell? ⟨gr, 0, none⟩ = some (.int .i64 0) := (blk_cell BR.out 0).trans rfl; have zf18 := blk_frozen BR.out 0; have z19 : w4.cell? ⟨gr, 1, none⟩ = some (.int .i64 0) := (blk_cell BR.out 1).trans rfl; have zf20 := blk_frozen BR.out 1; have z21 : w4.cell? ⟨gr, 2, none⟩ = some (.slice none 0 0) := (blk_cell BR.out 2).trans rfl; have zf22 := blk_frozen BR.out 2; have z23 : w4.cell? ⟨gr, 3, none⟩ = some (.slice none 0 0) := (blk_cell BR.out 3).trans rfl; have zf24 := blk_frozen BR.out 3; have z25 : w4.cell? ⟨gr, 4, none⟩ = some (.slice none 0 0) := (blk_cell BR.out 4).trans rfl; have zf26 := blk_frozen BR.out 4; have z27 : w4.cell? ⟨gr, 5, none⟩ = some (.int .i64 0) := (blk_cell BR.out 5).trans rfl; have zf28 := blk_frozen BR.out 5; have z29 : w4.cell? ⟨gr, 6, none⟩ = some (.int .i64 0) := (blk_cell BR.out 6).trans rfl; have zf30 := blk_frozen BR.out 6; have z31 : w4.cell? ⟨gr, 7, none⟩ = some (.int .i64 0) := (blk_cell BR.out 7).trans rfl; have zf32 := blk_frozen BR.out 7; have z33 : w4.cell? ⟨gn, 0, none⟩ = some (.int .i64 0) := (blk_cell BN.out 0).trans rfl; have zf34 := blk_frozen BN.out 0; have z35 : w4.cell? ⟨gn, 1, none⟩ = some (.int .i64 0) := (blk_cell BN.out 1).trans rfl; have zf36 := blk_frozen BN.out 1; have z37 : w4.cell? ⟨gn, 2, none⟩ = some (.slice none 0 0) := (blk_cell BN.out 2).trans rfl; have zf38 := blk_frozen BN.out 2; have z39 : w4.cell? ⟨gn, 3, none⟩ = some (.slice none 0 0) := (blk_cell BN.out 3).trans rfl; have zf40 := blk_frozen BN.out 3; have z41 : w4.cell? ⟨gn, 4, none⟩ = some (.slice none 0 0) := (blk_cell BN.out 4).trans rfl; have zf42 := blk_frozen BN.out 4; have z43 : w4.cell? ⟨gn, 5, none⟩ = some (.int .i64 0) := (blk_cell BN.out 5).trans rfl; have zf44 := blk_frozen BN.out 5; have z45 : w4.cell? ⟨gn, 6, none⟩ = some (.int .i64 0) := (blk_cell BN.out 6).trans rfl; have zf46 := blk_frozen BN.out 6; have z47 : w4.cell? ⟨gn, 7, none⟩ = some (.int .i64 0) := (blk_cell BN.out 7).trans rfl; have zf48 := blk_frozen BN.out 7))
  clear z1 zf2 z3 zf4 z5 zf6 z7 zf8 z9 zf10 z11 zf12 z13 zf14 z15 zf16 z17 zf18 z19 zf20 z21 zf22 z23 zf24 z25 zf26 z27 zf28 z29 zf30 z31 zf32 z33 zf34 z35 zf36 z37 zf38 z39 zf40 z41 zf42 z43 zf44 z45 zf46 z47 zf48
  refine spec_rv.cwp_seal (fun W_ => Below w.heap.size w W_ ∧ W_.heap[gr]? = some (.cells #[.int .i64 0, .int .i64 0, .slice none 0 0, .slice none 0 0, .slice none 0 0, .int .i64 0, .int .i64 0, .int .i64 0] 33 (0, 0)) ∧ W_.heap[gn]? = some (.cells #[.int .i64 0, .int .i64 0, .slice none 0 0, .slice none 0 0, .slice none 0 0, .int .i64 0, .int .i64 0, .int .i64 0] 33 (0, 0))) ⟨(by repeat (first | (with_reducible first | exact HB.out | apply below_alloc | apply pw_below_drewN | apply below_drew1 | refine below_set ?_ GE_BR.out | refine below_set ?_ GE_BN.out) | exact HB.out)), (by (with_reducible repeat (first | refine blk_drewN ?_ _ | refine blk_drew ?_ | refine blk_alloc ?_ _ | refine blk_far ?_ NE_BR_BN.out _)); exact BR.out), (by (with_reducible repeat (first | refine blk_drewN ?_ _ | refine blk_drew ?_ | refine blk_alloc ?_ _)); refine blk_put (cs := #[.int .i64 0, .int .i64 0, .slice none 0 0, .slice none 0 0, .slice none 0 0, .int .i64 0, .int .i64 0, .int .i64 0]) ?_ 7 _ rfl; (with_reducible repeat (first | refine blk_drewN ?_ _ | refine blk_drew ?_ | refine blk_alloc ?_ _)); refine blk_put (cs := #[.int .i64 0, .int .i64 0, .slice none 0 0, .slice none 0 0, .slice none 0 0, .int .i64 0, .int .i64 0, .int .i64 0]) ?_ 6 _ rfl; (with_reducible repeat (first | refine blk_drewN ?_ _ | refine blk_drew ?_ | refine blk_alloc ?_ _)); refine blk_put (cs := #[.int .i64 0, .int .i64 0, .slice none 0 0, .slice none 0 0, .slice none 0 0, .int .i64 0, .int .i64 0, .int .i64 0]) ?_ 5 _ rfl; (with_reducible repeat (first | refine blk_drewN ?_ _ | refine blk_drew ?_ | refine blk_alloc ?_ _)); refine blk_put (cs := #[.int .i64 0, .int .i64 0, .slice none 0 0, .slice none 0 0, .slice none 0 0, .int .i64 0, .int .i64 0, .int .i64 0]) ?_ 4 _ rfl; (with_reducible repeat (first | refine blk_drewN ?_ _ | refine blk_drew ?_ | refine blk_alloc ?_ _)); refine blk_put (cs := #[.int .i64 0, .int .i64 0, .slice none 0 0, .slice none 0 0, .slice none 0 0, .int .i64 0, .int .i64 0, .int .i64 0]) ?_ 3 _ rfl; (with_reducible repeat (first | refine blk_drewN ?_ _ | refine blk_drew ?_ | refine blk_alloc ?_ _)); refine blk_put (cs := #[.int .i64 0, .int .i64 0, .slice none 0 0, .slice none 0 0, .slice none 0 0, .int .i64 0, .int .i64 0, .int .i64 0]) ?_ 2 _ rfl; (with_reducible repeat (first | refine blk_drewN ?_ _ | refine blk_drew ?_ | refine blk_alloc ?_ _)); refine blk_put (cs := #[.int .i64 0, .int .i64 0, .slice none 0 0, .slice none 0 0, .slice none 0 0, .int .i64 0, .int .i64 0, .int .i64 0]) ?_ 1 _ rfl; (with_reducible repeat (first | refine blk_drewN ?_ _ | refine blk_drew ?_ | refine blk_alloc ?_ _)); refine blk_put (cs := #[.int .i64 0, .int .i64 0, .slice none 0 0, .slice none 0 0, .slice none 0 0, .int .i64 0, .int .i64 0, .int .i64 0]) ?_ 0 _ rfl; (with_reducible repeat (first | refine blk_drewN ?_ _ | refine blk_drew ?_ | refine blk_alloc ?_ _)); exact BN.out)⟩ ?_
  clear HB BR BN
  rintro w5 ⟨h0_, h1_, h2_⟩
  have HB := Aside0.mk h0_
  have BR := Aside0.mk h1_
  have BN := Aside0.mk h2_
  clear h0_ h1_ h2_
  have z49 : w5.cell? ⟨gr, 0, none⟩ = some (.int .i64 0) := (blk_cell BR.out 0).trans rfl
  have zf50 := blk_frozen BR.out 0
  have z51 : w5.cell? ⟨gr, 1, none⟩ = some (.int .i64 0) := (blk_cell BR.out 1).trans rfl
  have zf52 := blk_frozen BR.out 1
  have z53 : w5.cell? ⟨gr, 2, none⟩ = some (.slice none 0 0) := (blk_cell BR.out 2).trans rfl
  have zf54 := blk_frozen BR.out 2
  have z55 : w5.cell? ⟨gr, 3, none⟩ = some (.slice none 0 0) := (blk_cell BR.out 3).trans rfl
  have zf56 := blk_frozen BR.out 3
  have z57 : w5.cell? ⟨gr, 4, none⟩ = some (.slice none 0 0) := (blk_cell BR.out 4).trans rfl
  have zf58 := blk_frozen BR.out 4
  have z59 : w5.cell? ⟨gr, 5, none⟩ = some (.int .i64 0) := (blk_cell BR.out 5).trans rfl
  have zf60 := blk_frozen BR.out 5
  have z61 : w5.cell? ⟨gr, 6, none⟩ = some (.int .i64 0) := (blk_cell BR.out 6).trans rfl
  have zf62 := blk_frozen BR.out 6
  have z63 : w5.cell? ⟨gr, 7, none⟩ = some (.int .i64 0) := (blk_cell BR.out 7).trans rfl
  have zf64 := blk_frozen BR.out 7
  have z65 : w5.cell? ⟨gn, 0, none⟩ = some (.int .i64 0) := (blk_cell BN.out 0).trans rfl
  have zf66 := blk_frozen BN.out 0
  have z67 : w5.cell? ⟨gn, 1, none⟩ = some (.int .i64 0) := (blk_cell BN.out 1).trans rfl
  have zf68 := blk_frozen BN.out 1
  have z69 : w5.cell? ⟨gn, 2, none⟩ = some (.slice none 0 0) := (blk_cell BN.out 2).trans rfl
  have zf70 := blk_frozen BN.out 2
  have z71 : w5.cell? ⟨gn, 3, none⟩ = some (.slice none 0 0) := (blk_cell BN.out 3).trans rfl
  have zf72 := blk_frozen BN.out 3
  have z73 : w5.cell? ⟨gn, 4, none⟩ = some (.slice none 0 0) := (blk_cell BN.out 4).trans rfl
  have zf74 := blk_frozen BN.out 4
  have z75 : w5.cell? ⟨gn, 5, none⟩ = some (.int .i64 0) := (blk_cell BN.out 5).trans rfl
  have zf76 := blk_frozen BN.out 5
  have z77 : w5.cell? ⟨gn, 6, none⟩ = some (.int .i64 0) := (blk_cell BN.out 6).trans rfl
  have zf78 := blk_frozen BN.out 6
  have z79 : w5.cell? ⟨gn, 7, none⟩ = some (.int .i64 0) := (blk_cell BN.out 7).trans rfl
  have zf80 := blk_frozen BN.out 7
  go_upto_region 3 with (first | ((with_reducible refine gate_dst (N := 17) rfl ?_); refine box_event ?hg (N := 17) ?hd (cs := #[.slice A0 l0.length c0, .int .i64 0, .bool false]) (t := 38) ?hr ?_; (case hd => rfl); (case hg => rfl); (case hr => first | (go_simp; done) | (go_simp; rfl)); intro gs hg w6 hbox hb; have GE_BS := Aside0.mk (show w.heap.size ≤ gs from by rw [hg]; exact below_size (by repeat (first | (with_reducible first | exact HB.out | apply below_alloc | apply pw_below_drewN | apply below_drew1 | refine below_set ?_ GE_BR.out | refine below_set ?_ GE_BN.out) | exact HB.out))); have NE_BR_BS := Aside0.mk (show gr ≠ gs from by rw [hg]; exact Nat.ne_of_lt (blk_lt (show (_ : World).heap[gr]? = some (.cells #[.int .i64 0, .int .i64 0, .slice none 0 0, .slice none 0 0, .slice none 0 0, .int .i64 0, .int .i64 0, .int .i64 0] 33 (0, 0)) from (by (with_reducible repeat (first | refine blk_drewN ?_ _ | refine blk_drew ?_ | refine blk_alloc ?_ _)); exact BR.out)))); have NE_BS_BR := Aside0.mk (NE_BR_BS.out.symm); have NE_BN_BS := Aside0.mk (show gn ≠ gs from by rw [hg]; exact Nat.ne_of_lt (blk_lt (show (_ : World).heap[gn]? = some (.cells #[.int .i64 0, .int .i64 0, .slice none 0 0, .slice none 0 0, .slice none 0 0, .int .i64 0, .int .i64 0, .int .i64 0] 33 (0, 0)) from (by (with_reducible repeat (first | refine blk_drewN ?_ _ | refine blk_drew ?_ | refine blk_alloc ?_ _)); exact BN.out)))); have NE_BS_BN := Aside0.mk (NE_BN_BS.out.symm); have m0_ := Aside0.mk (show Below w.heap.size w w6 from below_step (by repeat (first | (with_reducible first | exact HB.out | apply below_alloc | apply pw_below_drewN | apply below_drew1 | refine below_set ?_ GE_BR.out | refine below_set ?_ GE_BN.out) | exact HB.out)) hb); have m1_ := Aside0.mk (show w6.heap[gr]? = some (.cells #[.int .i64 0, .int .i64 0, .slice none 0 0, .slice none 0 0, .slice none 0 0, .int .i64 0, .int .i64 0, .int .i64 0] 33 (0, 0)) from blk_below (g := gr) (o := .cells #[.int .i64 0, .int .i64 0, .slice none 0 0, .slice none 0 0, .slice none 0 0, .int .i64 0, .int .i64 0, .int .i64 0] 33 (0, 0)) (by (with_reducible repeat (first | refine blk_drewN ?_ _ | refine blk_drew ?_ | refine blk_alloc ?_ _)); exact BR.out) hb); have m2_ := Aside0.mk (show w6.heap[gn]? = some (.cells #[.int .i64 0, .int .i64 0, .slice none 0 0, .slice none 0 0, .slice none 0 0, .int .i64 0, .int .i64 0, .int .i64 0] 33 (0, 0)) from blk_below (g := gn) (o := .cells #[.int .i64 0, .int .i64 0, .slice none 0 0, .slice none 0 0, .slice none 0 0, .int .i64 0, .int .i64 0, .int .i64 0] 33 (0, 0)) (by (with_reducible repeat (first | refine blk_drewN ?_ _ | refine blk_drew ?_ | refine blk_alloc ?_ _)); exact BN.out) hb); have m3_ := Aside0.mk (show w6.heap[gs]? = some (.cells #[.slice A0 l0.length c0, .int .i64 0, .bool false] 38 (0, 0)) from hbox); clear HB; clear BR; clear BN; have HB := m0_; have BR := m1_; have BN := m2_; have BS := m3_; clear m0_ m1_ m2_ m3_; clear hb hbox hg; have z81 : w6.cell? ⟨gr, 0, none⟩ = some (.int .i64 0) := (blk_cell BR.out 0).trans rfl; have zf82 := blk_frozen BR.out 0; have z83 : w6.cell? ⟨gr, 1, none⟩ = some (.int .i64 0) := (blk_cell BR.out 1).trans rfl; have zf84 := blk_frozen BR.out 1; have z85 : w6.cell? ⟨gr, 2, none⟩ = some (.slice none 0 0) := (blk_cell BR.out 2).trans rfl; have zf86 := blk_frozen BR.out 2; have z87 : w6.cell? ⟨gr, 3, none⟩ = some (.slice none 0 0) := (blk_cell BR.out 3).trans rfl; have zf88 := blk_frozen BR.out 3; have z89 : w6.cell? ⟨gr, 4, none⟩ = some (.slice none 0 0) := (blk_cell BR.out 4).trans rfl; have zf90 := blk_frozen BR.out 4; have z91 : w6.cell? ⟨gr, 5, none⟩ = some (.int .i64 0) := (blk_cell BR.out 5).trans rfl; have zf92 := blk_frozen BR.out 5; have z93 : w6.cell? ⟨gr, 6, none⟩ = some (.int .i64 0) := (blk_cell BR.out 6).trans rfl; have zf94 := blk_frozen BR.out 6; have z95 : w6.cell? ⟨gr, 7, none⟩ = some (.int .i64 0) := (blk_cell BR.out 7).trans rfl; have zf96 := blk_frozen BR.out 7; have z97 : w6.cell? ⟨gn, 0, none⟩ = some (.int .i64 0) := (blk_cell BN.out 0).trans rfl; have zf98 := blk_frozen BN.out 0; have z99 : w6.cell? ⟨gn, 1, none⟩ = some (.int .i64 0) := (blk_cell BN.out 1).trans rfl; have zf100 := blk_frozen BN.out 1; have z101 : w6.cell? ⟨gn, 2, none⟩ = some (.slice none 0 0) := (blk_cell BN.out 2).trans rfl; have zf102 := blk_frozen BN.out 2; have z103 : w6.cell? ⟨gn, 3, none⟩ = some (.slice none 0 0) := (blk_cell BN.out 3).trans rfl; have zf104 := blk_frozen BN.out 3; have z105 : w6.cell? ⟨gn, 4, none⟩ = some (.slice none 0 0) := (blk_cell BN.out 4).trans rfl; have zf106 := blk_frozen BN.out 4; have z107 : w6.cell? ⟨gn, 5, none⟩ = some (.int .i64 0) := (blk_cell BN.out 5).trans rfl; have zf108 := blk_frozen BN.out 5; have z109 : w6.cell? ⟨gn, 6, none⟩ = some (.int .i64 0) := (blk_cell BN.out 6).trans rfl; have zf110 := blk_frozen BN.out 6; have z111 : w6.cell? ⟨gn, 7, none⟩ = some (.int .i64 0) := (blk_cell BN.out 7).trans rfl; have zf112 := blk_frozen BN.out 7; have z113 : w6.cell? ⟨gs, 0, none⟩ = some (.slice A0 l0.length c0) := (blk_cell BS.out 0).trans rfl; have zf114 := blk_frozen BS.out 0; have z115 : w6.cell? ⟨gs, 1, none⟩ = some (.int .i64 0) := (blk_cell BS.out 1).trans rfl; have zf116 := blk_frozen BS.out 1; have z117 : w6.cell? ⟨gs, 2, none⟩ = some (.bool false) := (blk_cell BS.out 2).trans rfl; have zf118 := blk_frozen BS.out 2))
  refine spec_rv.cwp_seal (fun W_ => spec_rv.P0 w W_ gr gn gs A0 c0 l0 0 false) ⟨(by repeat (first | (with_reducible first | exact HB.out | apply below_alloc | apply pw_below_drewN | apply below_drew1 | refine below_set ?_ GE_BR.out | refine below_set ?_ GE_BN.out | refine below_set ?_ GE_BS.out) | exact HB.out)), (by (with_reducible repeat (first | refine blk_drewN ?_ _ | refine blk_drew ?_ | refine blk_alloc ?_ _)); exact BR.out), (by (with_reducible repeat (first | refine blk_drewN ?_ _ | refine blk_drew ?_ | refine blk_alloc ?_ _)); exact BN.out), (show (_ : World).heap[gs]? = some (.cells #[.slice A0 l0.length c0, .int .i64 0, .bool false] 38 (0, 0)) from (by (with_reducible repeat (first | refine blk_drewN ?_ _ | refine blk_drew ?_ | refine blk_alloc ?_ _)); exact BS.out)), GE_BR.out, GE_BN.out, GE_BS.out, NE_BR_BN.out, NE_BR_BS.out, NE_BN_BS.out⟩ ?_
  rintro w7 hs_
  have HS := Aside0.mk hs_
  clear hs_ HB BR BN BS GE_BR GE_BN GE_BS NE_BR_BN NE_BN_BR NE_BR_BS NE_BS_BR NE_BN_BS NE_BS_BN z101 z103 z105 z107 z109 z111 z113 z115 z117 z81 z83 z85 z87 z89 z91 z93 z95 z97 z99 zf100 zf102 zf104 zf106 zf108 zf110 zf112 zf114 zf116 zf118 zf82 zf84 zf86 zf88 zf90 zf92 zf94 zf96 zf98
  obtain ⟨y1, f2, y3, f4, y5, f6⟩ := spec_rv.c3 HS.out.s
  obtain ⟨y7, f8, y9, f10, y11, f12, y13, f14, y15, f16, y17, f18, y19, f20, y21, f22⟩ := spec_rv.c8 HS.out.n
  obtain ⟨y23, f24, y25, f26, y27, f28, y29, f30, y31, f32, y33, f34, y35, f36, y37, f38⟩ := spec_rv.c8 HS.out.r
  go_upto_region 4 with (first | (go_at_call 17; refine (spec_rv.fixed_calls k gs A0 c0 l0 0 false 1 f p d w _ (show spec_rv.P0 w _ gr gn gs A0 c0 l0 0 false from (by first | done | exact HS.out | exact spec_rv.P0.drewN HS.out _ | exact spec_rv.P0.drew HS.out | ((with_reducible repeat (first | exact HS.out | apply spec_rv.P0.drewN | apply spec_rv.P0.drew)); done))).b HS.out.gs_ (show spec_rv.At _ gs A0 c0 l0 0 false from (show spec_rv.P0 w _ gr gn gs A0 c0 l0 0 false from (by first | done | exact HS.out | exact spec_rv.P0.drewN HS.out _ | exact spec_rv.P0.drew HS.out | ((with_reducible repeat (first | exact HS.out | apply spec_rv.P0.drewN | apply spec_rv.P0.drew)); done))).s) HI.out H1.out).mono ?_; rintro e w8 ⟨rfl, hg_, hk_⟩; have hs_ := Aside0.mk (show spec_rv.P0 w w8 gr gn gs A0 c0 l0 p d from spec_rv.P0.call (show spec_rv.P0 w _ gr gn gs A0 c0 l0 0 false from (by first | done | exact HS.out | exact spec_rv.P0.drewN HS.out _ | exact spec_rv.P0.drew HS.out | ((with_reducible repeat (first | exact HS.out | apply spec_rv.P0.drewN | apply spec_rv.P0.drew)); done))) hk_ hg_); clear HS; have HS := hs_; clear hs_ hg_ hk_; clear y1 f2 y3 f4 y5 f6 y7 f8 y9 f10 y11 f12 y13 f14 y15 f16 y17 f18 y19 f20 y21 f22 y23 f24 y25 f26 y27 f28 y29 f30 y31 f32 y33 f34 y35 f36 y37 f38; obtain ⟨y39, f40, y41, f42, y43, f44⟩ := spec_rv.c3 HS.out.s; obtain ⟨y45, f46, y47, f48, y49, f50, y51, f52, y53, f54, y55, f56, y57, f58, y59, f60⟩ := spec_rv.c8 HS.out.n; obtain ⟨y61, f62, y63, f64, y65, f66, y67, f68, y69, f70, y71, f72, y73, f74, y75, f76⟩ := spec_rv.c8 HS.out.r))
  refine spec_rv.cwp_seal (fun W_ => spec_rv.P0 w W_ gr gn gs A0 c0 l0 p d) (by first | done | exact HS.out | exact spec_rv.P0.drewN HS.out _ | exact spec_rv.P0.drew HS.out | ((with_reducible repeat (first | exact HS.out | apply spec_rv.P0.drewN | apply spec_rv.P0.drew)); done)) ?_
  clear HS y39 f40 y41 f42 y43 f44 y45 f46 y47 f48 y49 f50 y51 f52 y53 f54 y55 f56 y57 f58 y59 f60 y61 f62 y63 f64 y65 f66 y67 f68 y69 f70 y71 f72 y73 f74 y75 f76
  rintro w9 hs_
  have HS := Aside0.mk hs_
  clear hs_
  obtain ⟨y77, f78, y79, f80, y81, f82⟩ := spec_rv.c3 HS.out.s
  obtain ⟨y83, f84, y85, f86, y87, f88, y89, f90, y91, f92, y93, f94, y95, f96, y97, f98⟩ := spec_rv.c8 HS.out.n
  obtain ⟨y99, f100, y101, f102, y103, f104, y105, f106, y107, f108, y109, f110, y111, f112, y113, f114⟩ := spec_rv.c8 HS.out.r
  have h := H.out
  clear H
  have ne0 : gs ≠ gr := HS.out.rs.symm
  have ne1 : gr ≠ gs := HS.out.rs
  have ne2 : gn ≠ gr := HS.out.rn.symm
  have ne3 : gr ≠ gn := HS.out.rn
  cases d with
  | true =>
    rw [if_pos rfl] at h
    simp only [Option.some.injEq, Prod.mk.injEq] at h
    obtain ⟨rfl, rfl, rfl, rfl⟩ := h
    go_wp2
    try (go_region; all_goals go_wp2)
    all_goals (refine bodyPost_ret (results_ctt rfl _ _ gr 33 #[.int .i64 0, .int .i64 0, .slice none 0 0, .slice none 0 0, .slice none 0 0, .int .i64 0, .int .i64 0, .int .i64 0] (0, 0) _ rfl (by (with_reducible repeat (first | refine blk_drewN ?_ _ | refine blk_drew ?_ | refine blk_alloc ?_ _)); refine blk_put (cs := #[.int .i64 0, .int .i64 0, .slice none 0 0, .slice none 0 0, .slice none 0 0, .int .i64 0, .int .i64 0, .int .i64 0]) ?_ 7 _ rfl; (with_reducible repeat (first | refine blk_drewN ?_ _ | refine blk_drew ?_ | refine blk_alloc ?_ _)); refine blk_put (cs := #[.int .i64 0, .int .i64 0, .slice none 0 0, .slice none 0 0, .slice none 0 0, .int .i64 0, .int .i64 0, .int .i64 0]) ?_ 6 _ rfl; (with_reducible repeat (first | refine blk_drewN ?_ _ | refine blk_drew ?_ | refine blk_alloc ?_ _)); refine blk_put (cs := #[.int .i64 0, .int .i64 0, .slice none 0 0, .slice none 0 0, .slice none 0 0, .int .i64 0, .int .i64 0, .int .i64 0]) ?_ 5 _ rfl; (with_reducible repeat (first | refine blk_drewN ?_ _ | refine blk_drew ?_ | refine blk_alloc ?_ _)); refine blk_put (cs := #[.int .i64 0, .int .i64 0, .slice none 0 0, .slice none 0 0, .slice none 0 0, .int .i64 0, .int .i64 0, .int .i64 0]) ?_ 4 _ rfl; (with_reducible repeat (first | refine blk_drewN ?_ _ | refine blk_drew ?_ | refine blk_alloc ?_ _)); refine blk_put (cs := #[.int .i64 0, .int .i64 0, .slice none 0 0, .slice none 0 0, .slice none 0 0, .int .i64 0, .int .i64 0, .int .i64 0]) ?_ 3 _ rfl; (with_reducible repeat (first | refine blk_drewN ?_ _ | refine blk_drew ?_ | refine blk_alloc ?_ _)); refine blk_put (cs := #[.int .i64 0, .int .i64 0, .slice none 0 0, .slice none 0 0, .slice none 0 0, .int .i64 0, .int .i64 0, .int .i64 0]) ?_ 2 _ rfl; (with_reducible repeat (first | refine blk_drewN ?_ _ | refine blk_drew ?_ | refine blk_alloc ?_ _)); refine blk_put (cs := #[.int .i64 0, .int .i64 0, .slice none 0 0, .slice none 0 0, .slice none 0 0, .int .i64 0, .int .i64 0, .int .i64 0]) ?_ 1 _ rfl; (with_reducible repeat (first | refine blk_drewN ?_ _ | refine blk_drew ?_ | refine blk_alloc ?_ _)); refine blk_put (cs := #[.int .i64 0, .int .i64 0, .slice none 0 0, .slice none 0 0, .slice none 0 0, .int .i64 0, .int .i64 0, .int .i64 0]) ?_ 0 _ rfl; (with_reducible repeat (first | refine blk_drewN ?_ _ | refine blk_drew ?_ | refine blk_alloc ?_ _)); exact HS.out.r) Try.underlying33 rfl (by kernel_rfl)) rfl ?_)
    all_goals (exact ⟨⟨0, none, 0, none, 0, none, 0, 0, _, rfl⟩, (by (with_reducible repeat (first | exact HS.out.b | refine below_set ?_ HS.out.gr_ | apply below_alloc | apply pw_below_drewN | apply below_drew1)); first | done | exact HS.out.b)⟩)
  | false =>
    rw [if_neg (by simp)] at h
    by_cases c1 : f < 64
    · rw [if_pos c1] at h
      have qc1 : decide (f < 64) = true := decide_eq_true c1
      clear c1
      simp only [Option.some.injEq, Prod.mk.injEq] at h
      obtain ⟨rfl, rfl, rfl, rfl⟩ := h
      go_wp2
      try (go_region; all_goals go_wp2)
      all_goals (refine bodyPost_ret (results_ctt rfl _ _ gr 33 #[.int .i64 0, .int .i64 0, .slice none 0 0, .slice none 0 0, .slice none 0 0, .int .i64 0, .int .i64 0, .int .i64 0] (0, 0) _ rfl (by (with_reducible repeat (first | refine blk_drewN ?_ _ | refine blk_drew ?_ | refine blk_alloc ?_ _)); refine blk_put (cs := #[.int .i64 0, .int .i64 0, .slice none 0 0, .slice none 0 0, .slice none 0 0, .int .i64 0, .int .i64 0, .int .i64 0]) ?_ 7 _ rfl; (with_reducible repeat (first | refine blk_drewN ?_ _ | refine blk_drew ?_ | refine blk_alloc ?_ _)); refine blk_put (cs := #[.int .i64 0, .int .i64 0, .slice none 0 0, .slice none 0 0, .slice none 0 0, .int .i64 0, .int .i64 0, .int .i64 0]) ?_ 6 _ rfl; (with_reducible repeat (first | refine blk_drewN ?_ _ | refine blk_drew ?_ | refine blk_alloc ?_ _)); refine blk_put (cs := #[.int .i64 0, .int .i64 0, .slice none 0 0, .slice none 0 0, .slice none 0 0, .int .i64 0, .int .i64 0, .int .i64 0]) ?_ 5 _ rfl; (with_reducible repeat (first | refine blk_drewN ?_ _ | refine blk_drew ?_ | refine blk_alloc ?_ _)); refine blk_put (cs := #[.int .i64 0, .int .i64 0, .slice none 0 0, .slice none 0 0, .slice none 0 0, .int .i64 0, .int .i64 0, .int .i64 0]) ?_ 4 _ rfl; (with_reducible repeat (first | refine blk_drewN ?_ _ | refine blk_drew ?_ | refine blk_alloc ?_ _)); refine blk_put (cs := #[.int .i64 0, .int .i64 0, .slice none 0 0, .slice none 0 0, .slice none 0 0, .int .i64 0, .int .i64 0, .int .i64 0]) ?_ 3 _ rfl; (with_reducible repeat (first | refine blk_drewN ?_ _ | refine blk_drew ?_ | refine blk_alloc ?_ _)); refine blk_put (cs := #[.int .i64 0, .int .i64 0, .slice none 0 0, .slice none 0 0, .slice none 0 0, .int .i64 0, .int .i64 0, .int .i64 0]) ?_ 2 _ rfl; (with_reducible repeat (first | refine blk_drewN ?_ _ | refine blk_drew ?_ | refine blk_alloc ?_ _)); refine blk_put (cs := #[.int .i64 0, .int .i64 0, .slice none 0 0, .slice none 0 0, .slice none 0 0, .int .i64 0, .int .i64 0, .int .i64 0]) ?_ 1 _ rfl; (with_reducible repeat (first | refine blk_drewN ?_ _ | refine blk_drew ?_ | refine blk_alloc ?_ _)); refine blk_put (cs := #[.int .i64 0, .int .i64 0, .slice none 0 0, .slice none 0 0, .slice none 0 0, .int .i64 0, .int .i64 0, .int .i64 0]) ?_ 0 _ rfl; (with_reducible repeat (first | refine blk_drewN ?_ _ | refine blk_drew ?_ | refine blk_alloc ?_ _)); exact HS.out.r) Try.underlying33 rfl (by kernel_rfl)) rfl ?_)
      all_goals (exact ⟨⟨0, none, 0, none, 0, none, 0, 0, _, rfl⟩, (by (with_reducible repeat (first | exact HS.out.b | refine below_set ?_ HS.out.gr_ | apply below_alloc | apply pw_below_drewN | apply below_drew1)); first | done | exact HS.out.b)⟩)
    · rw [if_neg c1] at h
      have qc1 : decide (f < 64) = false := decide_eq_false c1
      clear c1
      by_cases c2 : f < 128
      · rw [if_pos c2] at h
        have q2 : decide (f < 128) = true := decide_eq_true c2
        clear c2
        obtain ⟨⟨v, p2, d2⟩, h_, h⟩ := Option.bind_eq_some_iff.1 h
        have H2 := Aside0.mk h_
        clear h_
        try dsimp only at h
        obtain ⟨nm, hnm⟩ : ∃ n : Int, n = (l0.length : Int) - p2 := ⟨_, rfl⟩
        rw [← hnm] at h
        have em : IntKind.i64.wrap ((l0.length : Int) - p2) = nm := by rw [hnm]; have h_ := spec_rv.take_len _ _ _ _ _ _ _ H2.out; exact IntWalk.i64_in _ (by omega)
        clear hnm
        have H := Aside0.mk h
        clear h
        go_upto_region 10 with (first | (go_at_call 21; refine (spec_rv.tk_calls gs A0 c0 l0 p false 0 p2 d2 v v.length w _ (show spec_rv.P0 w _ gr gn gs A0 c0 l0 p false from (by first | done | exact HS.out | exact spec_rv.P0.drewN HS.out _ | exact spec_rv.P0.drew HS.out | ((with_reducible repeat (first | exact HS.out | apply spec_rv.P0.drewN | apply spec_rv.P0.drew)); done))).b HS.out.gs_ (show spec_rv.At _ gs A0 c0 l0 p false from (show spec_rv.P0 w _ gr gn gs A0 c0 l0 p false from (by first | done | exact HS.out | exact spec_rv.P0.drewN HS.out _ | exact spec_rv.P0.drew HS.out | ((with_reducible repeat (first | exact HS.out | apply spec_rv.P0.drewN | apply spec_rv.P0.drew)); done))).s) HI.out H2.out rfl).mono ?_; rintro e w10 ⟨Ad, cd, rfl, hc_, hcl_, hg_, hk_⟩; clear hc_ hcl_; have hs_ := Aside0.mk (show spec_rv.P0 w w10 gr gn gs A0 c0 l0 p2 d2 from spec_rv.P0.call (show spec_rv.P0 w _ gr gn gs A0 c0 l0 p false from (by first | done | exact HS.out | exact spec_rv.P0.drewN HS.out _ | exact spec_rv.P0.drew HS.out | ((with_reducible repeat (first | exact HS.out | apply spec_rv.P0.drewN | apply spec_rv.P0.drew)); done))) hk_ hg_); clear HS; have HS := hs_; clear hs_ hg_ hk_; clear y77 f78 y79 f80 y81 f82 y83 f84 y85 f86 y87 f88 y89 f90 y91 f92 y93 f94 y95 f96 y97 f98 y99 f100 y101 f102 y103 f104 y105 f106 y107 f108 y109 f110 y111 f112 y113 f114; obtain ⟨y115, f116, y117, f118, y119, f120⟩ := spec_rv.c3 HS.out.s; obtain ⟨y121, f122, y123, f124, y125, f126, y127, f128, y129, f130, y131, f132, y133, f134, y135, f136⟩ := spec_rv.c8 HS.out.n; obtain ⟨y137, f138, y139, f140, y141, f142, y143, f144, y145, f146, y147, f148, y149, f150, y151, f152⟩ := spec_rv.c8 HS.out.r))
        refine spec_rv.cwp_seal (fun W_ => spec_rv.P0 w W_ gr gn gs A0 c0 l0 p2 d2) (by first | done | exact HS.out | exact spec_rv.P0.drewN HS.out _ | exact spec_rv.P0.drew HS.out | ((with_reducible repeat (first | exact HS.out | apply spec_rv.P0.drewN | apply spec_rv.P0.drew)); done)) ?_
        clear HS y115 f116 y117 f118 y119 f120 y121 f122 y123 f124 y125 f126 y127 f128 y129 f130 y131 f132 y133 f134 y135 f136 y137 f138 y139 f140 y141 f142 y143 f144 y145 f146 y147 f148 y149 f150 y151 f152
        rintro w11 hs_
        have HS := Aside0.mk hs_
        clear hs_
        obtain ⟨y153, f154, y155, f156, y157, f158⟩ := spec_rv.c3 HS.out.s
        obtain ⟨y159, f160, y161, f162, y163, f164, y165, f166, y167, f168, y169, f170, y171, f172, y173, f174⟩ := spec_rv.c8 HS.out.n
        obtain ⟨y175, f176, y177, f178, y179, f180, y181, f182, y183, f184, y185, f186, y187, f188, y189, f190⟩ := spec_rv.c8 HS.out.r
        have h := H.out
        clear H
        cases d2 with
        | true =>
          rw [if_pos rfl] at h
          simp only [Option.some.injEq, Prod.mk.injEq] at h
          obtain ⟨rfl, rfl, rfl, rfl⟩ := h
          go_wp2
          try (go_region; all_goals go_wp2)
          all_goals (refine bodyPost_ret (results_ctt rfl _ _ gr 33 #[.int .i64 0, .int .i64 0, .slice none 0 0, .slice none 0 0, .slice none 0 0, .int .i64 0, .int .i64 0, .int .i64 0] (0, 0) _ rfl (by (with_reducible repeat (first | refine blk_drewN ?_ _ | refine blk_drew ?_ | refine blk_alloc ?_ _)); refine blk_put (cs := #[.int .i64 0, .int .i64 0, .slice none 0 0, .slice none 0 0, .slice none 0 0, .int .i64 0, .int .i64 0, .int .i64 0]) ?_ 7 _ rfl; (with_reducible repeat (first | refine blk_drewN ?_ _ | refine blk_drew ?_ | refine blk_alloc ?_ _)); refine blk_put (cs := #[.int .i64 0, .int .i64 0, .slice none 0 0, .slice none 0 0, .slice none 0 0, .int .i64 0, .int .i64 0, .int .i64 0]) ?_ 6 _ rfl; (with_reducible repeat (first | refine blk_drewN ?_ _ | refine blk_drew ?_ | refine blk_alloc ?_ _)); refine blk_put (cs := #[.int .i64 0, .int .i64 0, .slice none 0 0, .slice none 0 0, .slice none 0 0, .int .i64 0, .int .i64 0, .int .i64 0]) ?_ 5 _ rfl; (with_reducible repeat (first | refine blk_drewN ?_ _ | refine blk_drew ?_ | refine blk_alloc ?_ _)); refine blk_put (cs := #[.int .i64 0, .int .i64 0, .slice none 0 0, .slice none 0 0, .slice none 0 0, .int .i64 0, .int .i64 0, .int .i64 0]) ?_ 4 _ rfl; (with_reducible repeat (first | refine blk_drewN ?_ _ | refine blk_drew ?_ | refine blk_alloc ?_ _)); refine blk_put (cs := #[.int .i64 0, .int .i64 0, .slice none 0 0, .slice none 0 0, .slice none 0 0, .int .i64 0, .int .i64 0, .int .i64 0]) ?_ 3 _ rfl; (with_reducible repeat (first | refine blk_drewN ?_ _ | refine blk_drew ?_ | refine blk_alloc ?_ _)); refine blk_put (cs := #[.int .i64 0, .int .i64 0, .slice none 0 0, .slice none 0 0, .slice none 0 0, .int .i64 0, .int .i64 0, .int .i64 0]) ?_ 2 _ rfl; (with_reducible repeat (first | refine blk_drewN ?_ _ | refine blk_drew ?_ | refine blk_alloc ?_ _)); refine blk_put (cs := #[.int .i64 0, .int .i64 0, .slice none 0 0, .slice none 0 0, .slice none 0 0, .int .i64 0, .int .i64 0, .int .i64 0]) ?_ 1 _ rfl; (with_reducible repeat (first | refine blk_drewN ?_ _ | refine blk_drew ?_ | refine blk_alloc ?_ _)); refine blk_put (cs := #[.int .i64 0, .int .i64 0, .slice none 0 0, .slice none 0 0, .slice none 0 0, .int .i64 0, .int .i64 0, .int .i64 0]) ?_ 0 _ rfl; (with_reducible repeat (first | refine blk_drewN ?_ _ | refine blk_drew ?_ | refine blk_alloc ?_ _)); exact HS.out.r) Try.underlying33 rfl (by kernel_rfl)) rfl ?_)
          all_goals (exact ⟨⟨0, none, 0, none, 0, none, 0, 0, _, rfl⟩, (by (with_reducible repeat (first | exact HS.out.b | refine below_set ?_ HS.out.gr_ | apply below_alloc | apply pw_below_drewN | apply below_drew1)); first | done | exact HS.out.b)⟩)
        | false =>
          rw [if_neg (by simp)] at h
          by_cases c3 : nm < 12
          · rw [if_pos c3] at h
            have qc3 : decide (nm < 12) = true := decide_eq_true c3
            clear c3
            simp only [Option.some.injEq, Prod.mk.injEq] at h
            obtain ⟨rfl, rfl, rfl, rfl⟩ := h
            go_wp2
            try (go_region; all_goals go_wp2)
            all_goals (refine bodyPost_ret (results_ctt rfl _ _ gr 33 #[.int .i64 0, .int .i64 0, .slice none 0 0, .slice none 0 0, .slice none 0 0, .int .i64 0, .int .i64 0, .int .i64 0] (0, 0) _ rfl (by (with_reducible repeat (first | refine blk_drewN ?_ _ | refine blk_drew ?_ | refine blk_alloc ?_ _)); refine blk_put (cs := #[.int .i64 0, .int .i64 0, .slice none 0 0, .slice none 0 0, .slice none 0 0, .int .i64 0, .int .i64 0, .int .i64 0]) ?_ 7 _ rfl; (with_reducible repeat (first | refine blk_drewN ?_ _ | refine blk_drew ?_ | refine blk_alloc ?_ _)); refine blk_put (cs := #[.int .i64 0, .int .i64 0, .slice none 0 0, .slice none 0 0, .slice none 0 0, .int .i64 0, .int .i64 0, .int .i64 0]) ?_ 6 _ rfl; (with_reducible repeat (first | refine blk_drewN ?_ _ | refine blk_drew ?_ | refine blk_alloc ?_ _)); refine blk_put (cs := #[.int .i64 0, .int .i64 0, .slice none 0 0, .slice none 0 0, .slice none 0 0, .int .i64 0, .int .i64 0, .int .i64 0]) ?_ 5 _ rfl; (with_reducible repeat (first | refine blk_drewN ?_ _ | refine blk_drew ?_ | refine blk_alloc ?_ _)); refine blk_put (cs := #[.int .i64 0, .int .i64 0, .slice none 0 0, .slice none 0 0, .slice none 0 0, .int .i64 0, .int .i64 0, .int .i64 0]) ?_ 4 _ rfl; (with_reducible repeat (first | refine blk_drewN ?_ _ | refine blk_drew ?_ | refine blk_alloc ?_ _)); refine blk_put (cs := #[.int .i64 0, .int .i64 0, .slice none 0 0, .slice none 0 0, .slice none 0 0, .int .i64 0, .int .i64 0, .int .i64 0]) ?_ 3 _ rfl; (with_reducible repeat (first | refine blk_drewN ?_ _ | refine blk_drew ?_ | refine blk_alloc ?_ _)); refine blk_put (cs := #[.int .i64 0, .int .i64 0, .slice none 0 0, .slice none 0 0, .slice none 0 0, .int .i64 0, .int .i64 0, .int .i64 0]) ?_ 2 _ rfl; (with_reducible repeat (first | refine blk_drewN ?_ _ | refine blk_drew ?_ | refine blk_alloc ?_ _)); refine blk_put (cs := #[.int .i64 0, .int .i64 0, .slice none 0 0, .slice none 0 0, .slice none 0 0, .int .i64 0, .int .i64 0, .int .i64 0]) ?_ 1 _ rfl; (with_reducible repeat (first | refine blk_drewN ?_ _ | refine blk_drew ?_ | refine blk_alloc ?_ _)); refine blk_put (cs := #[.int .i64 0, .int .i64 0, .slice none 0 0, .slice none 0 0, .slice none 0 0, .int .i64 0, .int .i64 0, .int .i64 0]) ?_ 0 _ rfl; (with_reducible repeat (first | refine blk_drewN ?_ _ | refine blk_drew ?_ | refine blk_alloc ?_ _)); exact HS.out.r) Try.underlying33 rfl (by kernel_rfl)) rfl ?_)
            all_goals (exact ⟨⟨0, none, 0, none, 0, none, 0, 0, _, rfl⟩, (by (with_reducible repeat (first | exact HS.out.b | refine below_set ?_ HS.out.gr_ | apply below_alloc | apply pw_below_drewN | apply below_drew1)); first | done | exact HS.out.b)⟩)
          · rw [if_neg c3] at h
            have qc3 : decide (nm < 12) = false := decide_eq_false c3
            clear c3
            simp only [Option.some.injEq, Prod.mk.injEq] at h
            obtain ⟨rfl, rfl, rfl, rfl⟩ := h
            go_wp2
            try (go_region; all_goals go_wp2)
            all_goals (refine bodyPost_ret (results_ctt rfl _ _ gr 33 #[.int .i64 4, .int .i64 0, .slice Ad v.length cd, .slice none 0 0, .slice none 0 0, .int .i64 0, .int .i64 0, .int .i64 0] (0, 0) _ rfl (by (with_reducible repeat (first | refine blk_drewN ?_ _ | refine blk_drew ?_ | refine blk_alloc ?_ _)); refine blk_put (cs := #[.int .i64 4, .int .i64 0, .slice Ad v.length cd, .slice none 0 0, .slice none 0 0, .int .i64 0, .int .i64 0, .int .i64 0]) ?_ 7 _ rfl; (with_reducible repeat (first | refine blk_drewN ?_ _ | refine blk_drew ?_ | refine blk_alloc ?_ _)); refine blk_put (cs := #[.int .i64 4, .int .i64 0, .slice Ad v.length cd, .slice none 0 0, .slice none 0 0, .int .i64 0, .int .i64 0, .int .i64 0]) ?_ 6 _ rfl; (with_reducible repeat (first | refine blk_drewN ?_ _ | refine blk_drew ?_ | refine blk_alloc ?_ _)); refine blk_put (cs := #[.int .i64 4, .int .i64 0, .slice Ad v.length cd, .slice none 0 0, .slice none 0 0, .int .i64 0, .int .i64 0, .int .i64 0]) ?_ 5 _ rfl; (with_reducible repeat (first | refine blk_drewN ?_ _ | refine blk_drew ?_ | refine blk_alloc ?_ _)); refine blk_put (cs := #[.int .i64 4, .int .i64 0, .slice Ad v.length cd, .slice none 0 0, .slice none 0 0, .int .i64 0, .int .i64 0, .int .i64 0]) ?_ 4 _ rfl; (with_reducible repeat (first | refine blk_drewN ?_ _ | refine blk_drew ?_ | refine blk_alloc ?_ _)); refine blk_put (cs := #[.int .i64 4, .int .i64 0, .slice Ad v.length cd, .slice none 0 0, .slice none 0 0, .int .i64 0, .int .i64 0, .int .i64 0]) ?_ 3 _ rfl; (with_reducible repeat (first | refine blk_drewN ?_ _ | refine blk_drew ?_ | refine blk_alloc ?_ _)); refine blk_put (cs := #[.int .i64 4, .int .i64 0, .slice none 0 0, .slice none 0 0, .slice none 0 0, .int .i64 0, .int .i64 0, .int .i64 0]) ?_ 2 _ rfl; (with_reducible repeat (first | refine blk_drewN ?_ _ | refine blk_drew ?_ | refine blk_alloc ?_ _)); refine blk_put (cs := #[.int .i64 4, .int .i64 0, .slice none 0 0, .slice none 0 0, .slice none 0 0, .int .i64 0, .int .i64 0, .int .i64 0]) ?_ 1 _ rfl; (with_reducible repeat (first | refine blk_drewN ?_ _ | refine blk_drew ?_ | refine blk_alloc ?_ _)); refine blk_put (cs := #[.int .i64 0, .int .i64 0, .slice none 0 0, .slice none 0 0, .slice none 0 0, .int .i64 0, .int .i64 0, .int .i64 0]) ?_ 0 _ rfl; (with_reducible repeat (first | refine blk_drewN ?_ _ | refine blk_drew ?_ | refine blk_alloc ?_ _)); exact HS.out.r) Try.underlying33 rfl (by kernel_rfl)) rfl ?_)
            all_goals (exact ⟨⟨0, Ad, cd, none, 0, none, 0, 0, _, rfl⟩, (by (with_reducible repeat (first | exact HS.out.b | refine below_set ?_ HS.out.gr_ | apply below_alloc | apply pw_below_drewN | apply below_drew1)); first | done | exact HS.out.b)⟩)
      · rw [if_neg c2] at h
        have q2 : decide (f < 128) = false := decide_eq_false c2
        clear c2
        unfold spec_rv.rest1 at h
        obtain ⟨⟨ver, p2, d2⟩, h_, h⟩ := Option.bind_eq_some_iff.1 h
        have H2 := Aside0.mk h_
        clear h_
        try dsimp only at h
        obtain ⟨⟨n1, p3, d3⟩, h_, h⟩ := Option.bind_eq_some_iff.1 h
        have H3 := Aside0.mk h_
        clear h_
        try dsimp only at h
        have H := Aside0.mk h
        clear h
        go_upto_region 14 with (first | (go_at_call 17; refine (spec_rv.fixed_calls k gs A0 c0 l0 p false 4 ver p2 d2 w _ (show spec_rv.P0 w _ gr gn gs A0 c0 l0 p false from (by first | done | exact HS.out | exact spec_rv.P0.drewN HS.out _ | exact spec_rv.P0.drew HS.out | ((with_reducible repeat (first | exact HS.out | apply spec_rv.P0.drewN | apply spec_rv.P0.drew)); done))).b HS.out.gs_ (show spec_rv.At _ gs A0 c0 l0 p false from (show spec_rv.P0 w _ gr gn gs A0 c0 l0 p false from (by first | done | exact HS.out | exact spec_rv.P0.drewN HS.out _ | exact spec_rv.P0.drew HS.out | ((with_reducible repeat (first | exact HS.out | apply spec_rv.P0.drewN | apply spec_rv.P0.drew)); done))).s) HI.out H2.out).mono ?_; rintro e w10 ⟨rfl, hg_, hk_⟩; have hs_ := Aside0.mk (show spec_rv.P0 w w10 gr gn gs A0 c0 l0 p2 d2 from spec_rv.P0.call (show spec_rv.P0 w _ gr gn gs A0 c0 l0 p false from (by first | done | exact HS.out | exact spec_rv.P0.drewN HS.out _ | exact spec_rv.P0.drew HS.out | ((with_reducible repeat (first | exact HS.out | apply spec_rv.P0.drewN | apply spec_rv.P0.drew)); done))) hk_ hg_); clear HS; have HS := hs_; clear hs_ hg_ hk_; clear y77 f78 y79 f80 y81 f82 y83 f84 y85 f86 y87 f88 y89 f90 y91 f92 y93 f94 y95 f96 y97 f98 y99 f100 y101 f102 y103 f104 y105 f106 y107 f108 y109 f110 y111 f112 y113 f114; obtain ⟨y115, f116, y117, f118, y119, f120⟩ := spec_rv.c3 HS.out.s; obtain ⟨y121, f122, y123, f124, y125, f126, y127, f128, y129, f130, y131, f132, y133, f134, y135, f136⟩ := spec_rv.c8 HS.out.n; obtain ⟨y137, f138, y139, f140, y141, f142, y143, f144, y145, f146, y147, f148, y149, f150, y151, f152⟩ := spec_rv.c8 HS.out.r) | ((with_reducible refine gate_dst (N := 11) rfl ?_); refine box_event ?hg (N := 11) ?hd (cs := #[.int .i64 0, .int .i64 0, .slice none 0 0, .slice none 0 0, .slice none 0 0, .int .i64 0, .int .i64 0, .int .i64 0]) (t := 33) ?hr ?_; (case hd => rfl); (case hg => rfl); (case hr => first | (go_simp; done) | (go_simp; rfl)); intro gh hg w11 hbox hb; have hs_ := Aside0.mk (show spec_rv.PK w w11 gr gn gs gh A0 c0 l0 p2 d2 #[.int .i64 0, .int .i64 0, .slice none 0 0, .slice none 0 0, .slice none 0 0, .int .i64 0, .int .i64 0, .int .i64 0] from spec_rv.PK.mk0 (show spec_rv.P0 w _ gr gn gs A0 c0 l0 p2 d2 from (by first | done | exact HS.out | exact spec_rv.P0.drewN HS.out _ | exact spec_rv.P0.drew HS.out | ((with_reducible repeat (first | exact HS.out | apply spec_rv.P0.drewN | apply spec_rv.P0.drew)); done))) hb hg hbox); clear HS y115 f116 y117 f118 y119 f120 y121 f122 y123 f124 y125 f126 y127 f128 y129 f130 y131 f132 y133 f134 y135 f136 y137 f138 y139 f140 y141 f142 y143 f144 y145 f146 y147 f148 y149 f150 y151 f152; have HS := hs_; clear hs_ hb hg hbox; obtain ⟨y153, f154, y155, f156, y157, f158⟩ := spec_rv.c3 HS.out.z.s; obtain ⟨y159, f160, y161, f162, y163, f164, y165, f166, y167, f168, y169, f170, y171, f172, y173, f174⟩ := spec_rv.c8 HS.out.h; obtain ⟨y175, f176, y177, f178, y179, f180, y181, f182, y183, f184, y185, f186, y187, f188, y189, f190⟩ := spec_rv.c8 HS.out.z.n; obtain ⟨y191, f192, y193, f194, y195, f196, y197, f198, y199, f200, y201, f202, y203, f204, y205, f206⟩ := spec_rv.c8 HS.out.z.r))
        refine spec_rv.cwp_seal (fun W_ => spec_rv.PK w W_ gr gn gs gh A0 c0 l0 p2 d2 #[.int .i64 0, .int .i64 ver, .slice none 0 0, .slice none 0 0, .slice none 0 0, .int .i64 0, .int .i64 0, .int .i64 0]) (by (with_reducible repeat (first | exact HS.out | apply spec_rv.PK.drewN | apply spec_rv.PK.drew)); refine spec_rv.PK.put (cs := #[.int .i64 0, .int .i64 ver, .slice none 0 0, .slice none 0 0, .slice none 0 0, .int .i64 0, .int .i64 0, .int .i64 0]) ?_ 7 _ rfl; (with_reducible repeat (first | exact HS.out | apply spec_rv.PK.drewN | apply spec_rv.PK.drew)); refine spec_rv.PK.put (cs := #[.int .i64 0, .int .i64 ver, .slice none 0 0, .slice none 0 0, .slice none 0 0, .int .i64 0, .int .i64 0, .int .i64 0]) ?_ 6 _ rfl; (with_reducible repeat (first | exact HS.out | apply spec_rv.PK.drewN | apply spec_rv.PK.drew)); refine spec_rv.PK.put (cs := #[.int .i64 0, .int .i64 ver, .slice none 0 0, .slice none 0 0, .slice none 0 0, .int .i64 0, .int .i64 0, .int .i64 0]) ?_ 5 _ rfl; (with_reducible repeat (first | exact HS.out | apply spec_rv.PK.drewN | apply spec_rv.PK.drew)); refine spec_rv.PK.put (cs := #[.int .i64 0, .int .i64 ver, .slice none 0 0, .slice none 0 0, .slice none 0 0, .int .i64 0, .int .i64 0, .int .i64 0]) ?_ 4 _ rfl; (with_reducible repeat (first | exact HS.out | apply spec_rv.PK.drewN | apply spec_rv.PK.drew)); refine spec_rv.PK.put (cs := #[.int .i64 0, .int .i64 ver, .slice none 0 0, .slice none 0 0, .slice none 0 0, .int .i64 0, .int .i64 0, .int .i64 0]) ?_ 3 _ rfl; (with_reducible repeat (first | exact HS.out | apply spec_rv.PK.drewN | apply spec_rv.PK.drew)); refine spec_rv.PK.put (cs := #[.int .i64 0, .int .i64 ver, .slice none 0 0, .slice none 0 0, .slice none 0 0, .int .i64 0, .int .i64 0, .int .i64 0]) ?_ 2 _ rfl; (with_reducible repeat (first | exact HS.out | apply spec_rv.PK.drewN | apply spec_rv.PK.drew)); refine spec_rv.PK.put (cs := #[.int .i64 0, .int .i64 0, .slice none 0 0, .slice none 0 0, .slice none 0 0, .int .i64 0, .int .i64 0, .int .i64 0]) ?_ 1 _ rfl; (with_reducible repeat (first | exact HS.out | apply spec_rv.PK.drewN | apply spec_rv.PK.drew)); refine spec_rv.PK.put (cs := #[.int .i64 0, .int .i64 0, .slice none 0 0, .slice none 0 0, .slice none 0 0, .int .i64 0, .int .i64 0, .int .i64 0]) ?_ 0 _ rfl; first | done | exact HS.out | exact spec_rv.PK.drewN HS.out _ | exact spec_rv.PK.drew HS.out | ((with_reducible repeat (first | exact HS.out | apply spec_rv.PK.drewN | apply spec_rv.PK.drew)); done)) ?_
        clear HS y153 f154 y155 f156 y157 f158 y159 f160 y161 f162 y163 f164 y165 f166 y167 f168 y169 f170 y171 f172 y173 f174 y175 f176 y177 f178 y179 f180 y181 f182 y183 f184 y185 f186 y187 f188 y189 f190 y191 f192 y193 f194 y195 f196 y197 f198 y199 f200 y201 f202 y203 f204 y205 f206
        rintro w12 hs_
        have HS := Aside0.mk hs_
        clear hs_
        obtain ⟨y207, f208, y209, f210, y211, f212⟩ := spec_rv.c3 HS.out.z.s
        obtain ⟨y213, f214, y215, f216, y217, f218, y219, f220, y221, f222, y223, f224, y225, f226, y227, f228⟩ := spec_rv.c8 HS.out.h
        obtain ⟨y229, f230, y231, f232, y233, f234, y235, f236, y237, f238, y239, f240, y241, f242, y243, f244⟩ := spec_rv.c8 HS.out.z.n
        obtain ⟨y245, f246, y247, f248, y249, f250, y251, f252, y253, f254, y255, f256, y257, f258, y259, f260⟩ := spec_rv.c8 HS.out.z.r
        have ne4 : gh ≠ gr := HS.out.rh.symm
        have ne5 : gr ≠ gh := HS.out.rh
        have ne6 : gh ≠ gs := HS.out.sh.symm
        have ne7 : gs ≠ gh := HS.out.sh
        go_upto_region 15 with (first | (go_at_call 17; refine (spec_rv.fixed_calls k gs A0 c0 l0 p2 d2 1 n1 p3 d3 w _ (show spec_rv.PK w _ gr gn gs gh A0 c0 l0 p2 d2 #[.int .i64 0, .int .i64 ver, .slice none 0 0, .slice none 0 0, .slice none 0 0, .int .i64 0, .int .i64 0, .int .i64 0] from (by first | done | exact HS.out | exact spec_rv.PK.drewN HS.out _ | exact spec_rv.PK.drew HS.out | ((with_reducible repeat (first | exact HS.out | apply spec_rv.PK.drewN | apply spec_rv.PK.drew)); done))).z.b HS.out.z.gs_ (show spec_rv.At _ gs A0 c0 l0 p2 d2 from (show spec_rv.PK w _ gr gn gs gh A0 c0 l0 p2 d2 #[.int .i64 0, .int .i64 ver, .slice none 0 0, .slice none 0 0, .slice none 0 0, .int .i64 0, .int .i64 0, .int .i64 0] from (by first | done | exact HS.out | exact spec_rv.PK.drewN HS.out _ | exact spec_rv.PK.drew HS.out | ((with_reducible repeat (first | exact HS.out | apply spec_rv.PK.drewN | apply spec_rv.PK.drew)); done))).z.s) HI.out H3.out).mono ?_; rintro e w13 ⟨rfl, hg_, hk_⟩; have hs_ := Aside0.mk (show spec_rv.PK w w13 gr gn gs gh A0 c0 l0 p3 d3 #[.int .i64 0, .int .i64 ver, .slice none 0 0, .slice none 0 0, .slice none 0 0, .int .i64 0, .int .i64 0, .int .i64 0] from spec_rv.PK.call (show spec_rv.PK w _ gr gn gs gh A0 c0 l0 p2 d2 #[.int .i64 0, .int .i64 ver, .slice none 0 0, .slice none 0 0, .slice none 0 0, .int .i64 0, .int .i64 0, .int .i64 0] from (by first | done | exact HS.out | exact spec_rv.PK.drewN HS.out _ | exact spec_rv.PK.drew HS.out | ((with_reducible repeat (first | exact HS.out | apply spec_rv.PK.drewN | apply spec_rv.PK.drew)); done))) hk_ hg_); clear HS; have HS := hs_; clear hs_ hg_ hk_; clear y207 f208 y209 f210 y211 f212 y213 f214 y215 f216 y217 f218 y219 f220 y221 f222 y223 f224 y225 f226 y227 f228 y229 f230 y231 f232 y233 f234 y235 f236 y237 f238 y239 f240 y241 f242 y243 f244 y245 f246 y247 f248 y249 f250 y251 f252 y253 f254 y255 f256 y257 f258 y259 f260; obtain ⟨y261, f262, y263, f264, y265, f266⟩ := spec_rv.c3 HS.out.z.s; obtain ⟨y267, f268, y269, f270, y271, f272, y273, f274, y275, f276, y277, f278, y279, f280, y281, f282⟩ := spec_rv.c8 HS.out.h; obtain ⟨y283, f284, y285, f286, y287, f288, y289, f290, y291, f292, y293, f294, y295, f296, y297, f298⟩ := spec_rv.c8 HS.out.z.n; obtain ⟨y299, f300, y301, f302, y303, f304, y305, f306, y307, f308, y309, f310, y311, f312, y313, f314⟩ := spec_rv.c8 HS.out.z.r))
        refine spec_rv.cwp_seal (fun W_ => spec_rv.PK w W_ gr gn gs gh A0 c0 l0 p3 d3 #[.int .i64 0, .int .i64 ver, .slice none 0 0, .slice none 0 0, .slice none 0 0, .int .i64 0, .int .i64 0, .int .i64 0]) (by first | done | exact HS.out | exact spec_rv.PK.drewN HS.out _ | exact spec_rv.PK.drew HS.out | ((with_reducible repeat (first | exact HS.out | apply spec_rv.PK.drewN | apply spec_rv.PK.drew)); done)) ?_
        clear HS y261 f262 y263 f264 y265 f266 y267 f268 y269 f270 y271 f272 y273 f274 y275 f276 y277 f278 y279 f280 y281 f282 y283 f284 y285 f286 y287 f288 y289 f290 y291 f292 y293 f294 y295 f296 y297 f298 y299 f300 y301 f302 y303 f304 y305 f306 y307 f308 y309 f310 y311 f312 y313 f314
        rintro w14 hs_
        have HS := Aside0.mk hs_
        clear hs_
        obtain ⟨y315, f316, y317, f318, y319, f320⟩ := spec_rv.c3 HS.out.z.s
        obtain ⟨y321, f322, y323, f324, y325, f326, y327, f328, y329, f330, y331, f332, y333, f334, y335, f336⟩ := spec_rv.c8 HS.out.h
        obtain ⟨y337, f338, y339, f340, y341, f342, y343, f344, y345, f346, y347, f348, y349, f350, y351, f352⟩ := spec_rv.c8 HS.out.z.n
        obtain ⟨y353, f354, y355, f356, y357, f358, y359, f360, y361, f362, y363, f364, y365, f366, y367, f368⟩ := spec_rv.c8 HS.out.z.r
        have h := H.out
        clear H
        cases d3 with
        | true =>
          rw [if_pos rfl] at h
          simp only [Option.some.injEq, Prod.mk.injEq] at h
          obtain ⟨rfl, rfl, rfl, rfl⟩ := h
          go_wp2
          go_region_with (first | (go_at_call 22; refine (spec_rv.fault_t gs A0 c0 l0 p3 _ (show spec_rv.At _ gs A0 c0 l0 p3 true from (show spec_rv.PK w _ gr gn gs gh A0 c0 l0 p3 true #[.int .i64 0, .int .i64 ver, .slice none 0 0, .slice none 0 0, .slice none 0 0, .int .i64 0, .int .i64 0, .int .i64 0] from (by first | done | exact HS.out | exact spec_rv.PK.drewN HS.out _ | exact spec_rv.PK.drew HS.out | ((with_reducible repeat (first | exact HS.out | apply spec_rv.PK.drewN | apply spec_rv.PK.drew)); done))).z.s)).mono ?_; rintro e w2_ ⟨rfl, rfl⟩))
          all_goals go_wp2
          all_goals (refine bodyPost_ret (results_ctt rfl _ _ gr 33 #[.int .i64 0, .int .i64 0, .slice none 0 0, .slice none 0 0, .slice none 0 0, .int .i64 0, .int .i64 0, .int .i64 0] (0, 0) _ rfl (by (with_reducible repeat (first | refine blk_drewN ?_ _ | refine blk_drew ?_ | refine blk_alloc ?_ _)); refine blk_put (cs := #[.int .i64 0, .int .i64 0, .slice none 0 0, .slice none 0 0, .slice none 0 0, .int .i64 0, .int .i64 0, .int .i64 0]) ?_ 7 _ rfl; (with_reducible repeat (first | refine blk_drewN ?_ _ | refine blk_drew ?_ | refine blk_alloc ?_ _)); refine blk_put (cs := #[.int .i64 0, .int .i64 0, .slice none 0 0, .slice none 0 0, .slice none 0 0, .int .i64 0, .int .i64 0, .int .i64 0]) ?_ 6 _ rfl; (with_reducible repeat (first | refine blk_drewN ?_ _ | refine blk_drew ?_ | refine blk_alloc ?_ _)); refine blk_put (cs := #[.int .i64 0, .int .i64 0, .slice none 0 0, .slice none 0 0, .slice none 0 0, .int .i64 0, .int .i64 0, .int .i64 0]) ?_ 5 _ rfl; (with_reducible repeat (first | refine blk_drewN ?_ _ | refine blk_drew ?_ | refine blk_alloc ?_ _)); refine blk_put (cs := #[.int .i64 0, .int .i64 0, .slice none 0 0, .slice none 0 0, .slice none 0 0, .int .i64 0, .int .i64 0, .int .i64 0]) ?_ 4 _ rfl; (with_reducible repeat (first | refine blk_drewN ?_ _ | refine blk_drew ?_ | refine blk_alloc ?_ _)); refine blk_put (cs := #[.int .i64 0, .int .i64 0, .slice none 0 0, .slice none 0 0, .slice none 0 0, .int .i64 0, .int .i64 0, .int .i64 0]) ?_ 3 _ rfl; (with_reducible repeat (first | refine blk_drewN ?_ _ | refine blk_drew ?_ | refine blk_alloc ?_ _)); refine blk_put (cs := #[.int .i64 0, .int .i64 0, .slice none 0 0, .slice none 0 0, .slice none 0 0, .int .i64 0, .int .i64 0, .int .i64 0]) ?_ 2 _ rfl; (with_reducible repeat (first | refine blk_drewN ?_ _ | refine blk_drew ?_ | refine blk_alloc ?_ _)); refine blk_put (cs := #[.int .i64 0, .int .i64 0, .slice none 0 0, .slice none 0 0, .slice none 0 0, .int .i64 0, .int .i64 0, .int .i64 0]) ?_ 1 _ rfl; (with_reducible repeat (first | refine blk_drewN ?_ _ | refine blk_drew ?_ | refine blk_alloc ?_ _)); refine blk_put (cs := #[.int .i64 0, .int .i64 0, .slice none 0 0, .slice none 0 0, .slice none 0 0, .int .i64 0, .int .i64 0, .int .i64 0]) ?_ 0 _ rfl; (with_reducible repeat (first | refine blk_drewN ?_ _ | refine blk_drew ?_ | refine blk_alloc ?_ _)); exact HS.out.z.r) Try.underlying33 rfl (by kernel_rfl)) rfl ?_)
          all_goals (exact ⟨⟨0, none, 0, none, 0, none, 0, 0, _, rfl⟩, (by (with_reducible repeat (first | exact HS.out.z.b | refine below_set ?_ HS.out.z.gr_ | apply below_alloc | apply pw_below_drewN | apply below_drew1)); first | done | exact HS.out.z.b)⟩)
        | false =>
          rw [if_neg (by simp)] at h
          by_cases c4 : 8 < n1
          · rw [if_pos c4] at h
            have qc4 : decide (8 < n1) = true := decide_eq_true c4
            clear c4
            simp only [Option.some.injEq, Prod.mk.injEq] at h
            obtain ⟨rfl, rfl, rfl, rfl⟩ := h
            go_wp2
            go_region_with (first | (go_at_call 22; refine (spec_rv.fault_f gs A0 c0 l0 p3 _ (show spec_rv.At _ gs A0 c0 l0 p3 false from (show spec_rv.PK w _ gr gn gs gh A0 c0 l0 p3 false #[.int .i64 0, .int .i64 ver, .slice none 0 0, .slice none 0 0, .slice none 0 0, .int .i64 0, .int .i64 0, .int .i64 0] from (by first | done | exact HS.out | exact spec_rv.PK.drewN HS.out _ | exact spec_rv.PK.drew HS.out | ((with_reducible repeat (first | exact HS.out | apply spec_rv.PK.drewN | apply spec_rv.PK.drew)); done))).z.s)).mono ?_; rintro e w2_ ⟨rfl, rfl⟩))
            all_goals go_wp2
            all_goals (refine bodyPost_ret (results_ctt rfl _ _ gr 33 #[.int .i64 0, .int .i64 0, .slice none 0 0, .slice none 0 0, .slice none 0 0, .int .i64 0, .int .i64 0, .int .i64 0] (0, 0) _ rfl (by (with_reducible repeat (first | refine blk_drewN ?_ _ | refine blk_drew ?_ | refine blk_alloc ?_ _)); refine blk_put (cs := #[.int .i64 0, .int .i64 0, .slice none 0 0, .slice none 0 0, .slice none 0 0, .int .i64 0, .int .i64 0, .int .i64 0]) ?_ 7 _ rfl; (with_reducible repeat (first | refine blk_drewN ?_ _ | refine blk_drew ?_ | refine blk_alloc ?_ _)); refine blk_put (cs := #[.int .i64 0, .int .i64 0, .slice none 0 0, .slice none 0 0, .slice none 0 0, .int .i64 0, .int .i64 0, .int .i64 0]) ?_ 6 _ rfl; (with_reducible repeat (first | refine blk_drewN ?_ _ | refine blk_drew ?_ | refine blk_alloc ?_ _)); refine blk_put (cs := #[.int .i64 0, .int .i64 0, .slice none 0 0, .slice none 0 0, .slice none 0 0, .int .i64 0, .int .i64 0, .int .i64 0]) ?_ 5 _ rfl; (with_reducible repeat (first | refine blk_drewN ?_ _ | refine blk_drew ?_ | refine blk_alloc ?_ _)); refine blk_put (cs := #[.int .i64 0, .int .i64 0, .slice none 0 0, .slice none 0 0, .slice none 0 0, .int .i64 0, .int .i64 0, .int .i64 0]) ?_ 4 _ rfl; (with_reducible repeat (first | refine blk_drewN ?_ _ | refine blk_drew ?_ | refine blk_alloc ?_ _)); refine blk_put (cs := #[.int .i64 0, .int .i64 0, .slice none 0 0, .slice none 0 0, .slice none 0 0, .int .i64 0, .int .i64 0, .int .i64 0]) ?_ 3 _ rfl; (with_reducible repeat (first | refine blk_drewN ?_ _ | refine blk_drew ?_ | refine blk_alloc ?_ _)); refine blk_put (cs := #[.int .i64 0, .int .i64 0, .slice none 0 0, .slice none 0 0, .slice none 0 0, .int .i64 0, .int .i64 0, .int .i64 0]) ?_ 2 _ rfl; (with_reducible repeat (first | refine blk_drewN ?_ _ | refine blk_drew ?_ | refine blk_alloc ?_ _)); refine blk_put (cs := #[.int .i64 0, .int .i64 0, .slice none 0 0, .slice none 0 0, .slice none 0 0, .int .i64 0, .int .i64 0, .int .i64 0]) ?_ 1 _ rfl; (with_reducible repeat (first | refine blk_drewN ?_ _ | refine blk_drew ?_ | refine blk_alloc ?_ _)); refine blk_put (cs := #[.int .i64 0, .int .i64 0, .slice none 0 0, .slice none 0 0, .slice none 0 0, .int .i64 0, .int .i64 0, .int .i64 0]) ?_ 0 _ rfl; (with_reducible repeat (first | refine blk_drewN ?_ _ | refine blk_drew ?_ | refine blk_alloc ?_ _)); exact HS.out.z.r) Try.underlying33 rfl (by kernel_rfl)) rfl ?_)
            all_goals (exact ⟨⟨0, none, 0, none, 0, none, 0, 0, _, rfl⟩, (by (with_reducible repeat (first | exact HS.out.z.b | refine below_set ?_ HS.out.z.gr_ | apply below_alloc | apply pw_below_drewN | apply below_drew1)); first | done | exact HS.out.z.b)⟩)
          · rw [if_neg c4] at h
            have qc4 : decide (8 < n1) = false := decide_eq_false c4
            clear c4
            obtain ⟨⟨dd, p4, d4⟩, h_, h⟩ := Option.bind_eq_some_iff.1 h
            have H4 := Aside0.mk h_
            clear h_
            try dsimp only at h
            obtain ⟨⟨n2, p5, d5⟩, h_, h⟩ := Option.bind_eq_some_iff.1 h
            have H5 := Aside0.mk h_
            clear h_
            try dsimp only at h
            have H := Aside0.mk h
            clear h
            go_upto_region 18 with (first | (go_at_call 21; refine (spec_rv.tk_calls gs A0 c0 l0 p3 false n1 p4 d4 dd dd.length w _ (show spec_rv.PK w _ gr gn gs gh A0 c0 l0 p3 false #[.int .i64 0, .int .i64 ver, .slice none 0 0, .slice none 0 0, .slice none 0 0, .int .i64 0, .int .i64 0, .int .i64 0] from (by first | done | exact HS.out | exact spec_rv.PK.drewN HS.out _ | exact spec_rv.PK.drew HS.out | ((with_reducible repeat (first | exact HS.out | apply spec_rv.PK.drewN | apply spec_rv.PK.drew)); done))).z.b HS.out.z.gs_ (show spec_rv.At _ gs A0 c0 l0 p3 false from (show spec_rv.PK w _ gr gn gs gh A0 c0 l0 p3 false #[.int .i64 0, .int .i64 ver, .slice none 0 0, .slice none 0 0, .slice none 0 0, .int .i64 0, .int .i64 0, .int .i64 0] from (by first | done | exact HS.out | exact spec_rv.PK.drewN HS.out _ | exact spec_rv.PK.drew HS.out | ((with_reducible repeat (first | exact HS.out | apply spec_rv.PK.drewN | apply spec_rv.PK.drew)); done))).z.s) HI.out H4.out rfl).mono ?_; rintro e w15 ⟨Ad, cd, rfl, hc_, hcl_, hg_, hk_⟩; clear hc_ hcl_; have hs_ := Aside0.mk (show spec_rv.PK w w15 gr gn gs gh A0 c0 l0 p4 d4 #[.int .i64 0, .int .i64 ver, .slice none 0 0, .slice none 0 0, .slice none 0 0, .int .i64 0, .int .i64 0, .int .i64 0] from spec_rv.PK.call (show spec_rv.PK w _ gr gn gs gh A0 c0 l0 p3 false #[.int .i64 0, .int .i64 ver, .slice none 0 0, .slice none 0 0, .slice none 0 0, .int .i64 0, .int .i64 0, .int .i64 0] from (by first | done | exact HS.out | exact spec_rv.PK.drewN HS.out _ | exact spec_rv.PK.drew HS.out | ((with_reducible repeat (first | exact HS.out | apply spec_rv.PK.drewN | apply spec_rv.PK.drew)); done))) hk_ hg_); clear HS; have HS := hs_; clear hs_ hg_ hk_; clear y315 f316 y317 f318 y319 f320 y321 f322 y323 f324 y325 f326 y327 f328 y329 f330 y331 f332 y333 f334 y335 f336 y337 f338 y339 f340 y341 f342 y343 f344 y345 f346 y347 f348 y349 f350 y351 f352 y353 f354 y355 f356 y357 f358 y359 f360 y361 f362 y363 f364 y365 f366 y367 f368; obtain ⟨y369, f370, y371, f372, y373, f374⟩ := spec_rv.c3 HS.out.z.s; obtain ⟨y375, f376, y377, f378, y379, f380, y381, f382, y383, f384, y385, f386, y387, f388, y389, f390⟩ := spec_rv.c8 HS.out.h; obtain ⟨y391, f392, y393, f394, y395, f396, y397, f398, y399, f400, y401, f402, y403, f404, y405, f406⟩ := spec_rv.c8 HS.out.z.n; obtain ⟨y407, f408, y409, f410, y411, f412, y413, f414, y415, f416, y417, f418, y419, f420, y421, f422⟩ := spec_rv.c8 HS.out.z.r))
            refine spec_rv.cwp_seal (fun W_ => spec_rv.PK w W_ gr gn gs gh A0 c0 l0 p4 d4 #[.int .i64 0, .int .i64 ver, .slice Ad dd.length cd, .slice none 0 0, .slice none 0 0, .int .i64 0, .int .i64 0, .int .i64 0]) (by (with_reducible repeat (first | exact HS.out | apply spec_rv.PK.drewN | apply spec_rv.PK.drew)); refine spec_rv.PK.put (cs := #[.int .i64 0, .int .i64 ver, .slice none 0 0, .slice none 0 0, .slice none 0 0, .int .i64 0, .int .i64 0, .int .i64 0]) ?_ 2 _ rfl; first | done | exact HS.out | exact spec_rv.PK.drewN HS.out _ | exact spec_rv.PK.drew HS.out | ((with_reducible repeat (first | exact HS.out | apply spec_rv.PK.drewN | apply spec_rv.PK.drew)); done)) ?_
            clear HS y369 f370 y371 f372 y373 f374 y375 f376 y377 f378 y379 f380 y381 f382 y383 f384 y385 f386 y387 f388 y389 f390 y391 f392 y393 f394 y395 f396 y397 f398 y399 f400 y401 f402 y403 f404 y405 f406 y407 f408 y409 f410 y411 f412 y413 f414 y415 f416 y417 f418 y419 f420 y421 f422
            rintro w16 hs_
            have HS := Aside0.mk hs_
            clear hs_
            obtain ⟨y423, f424, y425, f426, y427, f428⟩ := spec_rv.c3 HS.out.z.s
            obtain ⟨y429, f430, y431, f432, y433, f434, y435, f436, y437, f438, y439, f440, y441, f442, y443, f444⟩ := spec_rv.c8 HS.out.h
            obtain ⟨y445, f446, y447, f448, y449, f450, y451, f452, y453, f454, y455, f456, y457, f458, y459, f460⟩ := spec_rv.c8 HS.out.z.n
            obtain ⟨y461, f462, y463, f464, y465, f466, y467, f468, y469, f470, y471, f472, y473, f474, y475, f476⟩ := spec_rv.c8 HS.out.z.r
            go_upto_region 19 with (first | (go_at_call 17; refine (spec_rv.fixed_calls k gs A0 c0 l0 p4 d4 1 n2 p5 d5 w _ (show spec_rv.PK w _ gr gn gs gh A0 c0 l0 p4 d4 #[.int .i64 0, .int .i64 ver, .slice Ad dd.length cd, .slice none 0 0, .slice none 0 0, .int .i64 0, .int .i64 0, .int .i64 0] from (by first | done | exact HS.out | exact spec_rv.PK.drewN HS.out _ | exact spec_rv.PK.drew HS.out | ((with_reducible repeat (first | exact HS.out | apply spec_rv.PK.drewN | apply spec_rv.PK.drew)); done))).z.b HS.out.z.gs_ (show spec_rv.At _ gs A0 c0 l0 p4 d4 from (show spec_rv.PK w _ gr gn gs gh A0 c0 l0 p4 d4 #[.int .i64 0, .int .i64 ver, .slice Ad dd.length cd, .slice none 0 0, .slice none 0 0, .int .i64 0, .int .i64 0, .int .i64 0] from (by first | done | exact HS.out | exact spec_rv.PK.drewN HS.out _ | exact spec_rv.PK.drew HS.out | ((with_reducible repeat (first | exact HS.out | apply spec_rv.PK.drewN | apply spec_rv.PK.drew)); done))).z.s) HI.out H5.out).mono ?_; rintro e w17 ⟨rfl, hg_, hk_⟩; have hs_ := Aside0.mk (show spec_rv.PK w w17 gr gn gs gh A0 c0 l0 p5 d5 #[.int .i64 0, .int .i64 ver, .slice Ad dd.length cd, .slice none 0 0, .slice none 0 0, .int .i64 0, .int .i64 0, .int .i64 0] from spec_rv.PK.call (show spec_rv.PK w _ gr gn gs gh A0 c0 l0 p4 d4 #[.int .i64 0, .int .i64 ver, .slice Ad dd.length cd, .slice none 0 0, .slice none 0 0, .int .i64 0, .int .i64 0, .int .i64 0] from (by first | done | exact HS.out | exact spec_rv.PK.drewN HS.out _ | exact spec_rv.PK.drew HS.out | ((with_reducible repeat (first | exact HS.out | apply spec_rv.PK.drewN | apply spec_rv.PK.drew)); done))) hk_ hg_); clear HS; have HS := hs_; clear hs_ hg_ hk_; clear y423 f424 y425 f426 y427 f428 y429 f430 y431 f432 y433 f434 y435 f436 y437 f438 y439 f440 y441 f442 y443 f444 y445 f446 y447 f448 y449 f450 y451 f452 y453 f454 y455 f456 y457 f458 y459 f460 y461 f462 y463 f464 y465 f466 y467 f468 y469 f470 y471 f472 y473 f474 y475 f476; obtain ⟨y477, f478, y479, f480, y481, f482⟩ := spec_rv.c3 HS.out.z.s; obtain ⟨y483, f484, y485, f486, y487, f488, y489, f490, y491, f492, y493, f494, y495, f496, y497, f498⟩ := spec_rv.c8 HS.out.h; obtain ⟨y499, f500, y501, f502, y503, f504, y505, f506, y507, f508, y509, f510, y511, f512, y513, f514⟩ := spec_rv.c8 HS.out.z.n; obtain ⟨y515, f516, y517, f518, y519, f520, y521, f522, y523, f524, y525, f526, y527, f528, y529, f530⟩ := spec_rv.c8 HS.out.z.r))
            refine spec_rv.cwp_seal (fun W_ => spec_rv.PK w W_ gr gn gs gh A0 c0 l0 p5 d5 #[.int .i64 0, .int .i64 ver, .slice Ad dd.length cd, .slice none 0 0, .slice none 0 0, .int .i64 0, .int .i64 0, .int .i64 0]) (by first | done | exact HS.out | exact spec_rv.PK.drewN HS.out _ | exact spec_rv.PK.drew HS.out | ((with_reducible repeat (first | exact HS.out | apply spec_rv.PK.drewN | apply spec_rv.PK.drew)); done)) ?_
            clear HS y477 f478 y479 f480 y481 f482 y483 f484 y485 f486 y487 f488 y489 f490 y491 f492 y493 f494 y495 f496 y497 f498 y499 f500 y501 f502 y503 f504 y505 f506 y507 f508 y509 f510 y511 f512 y513 f514 y515 f516 y517 f518 y519 f520 y521 f522 y523 f524 y525 f526 y527 f528 y529 f530
            rintro w18 hs_
            have HS := Aside0.mk hs_
            clear hs_
            obtain ⟨y531, f532, y533, f534, y535, f536⟩ := spec_rv.c3 HS.out.z.s
            obtain ⟨y537, f538, y539, f540, y541, f542, y543, f544, y545, f546, y547, f548, y549, f550, y551, f552⟩ := spec_rv.c8 HS.out.h
            obtain ⟨y553, f554, y555, f556, y557, f558, y559, f560, y561, f562, y563, f564, y565, f566, y567, f568⟩ := spec_rv.c8 HS.out.z.n
            obtain ⟨y569, f570, y571, f572, y573, f574, y575, f576, y577, f578, y579, f580, y581, f582, y583, f584⟩ := spec_rv.c8 HS.out.z.r
            have h := H.out
            clear H
            cases d5 with
            | true =>
              rw [if_pos rfl] at h
              simp only [Option.some.injEq, Prod.mk.injEq] at h
              obtain ⟨rfl, rfl, rfl, rfl⟩ := h
              go_wp2
              go_region_with (first | (go_at_call 22; refine (spec_rv.fault_t gs A0 c0 l0 p5 _ (show spec_rv.At _ gs A0 c0 l0 p5 true from (show spec_rv.PK w _ gr gn gs gh A0 c0 l0 p5 true #[.int .i64 0, .int .i64 ver, .slice Ad dd.length cd, .slice none 0 0, .slice none 0 0, .int .i64 0, .int .i64 0, .int .i64 0] from (by first | done | exact HS.out | exact spec_rv.PK.drewN HS.out _ | exact spec_rv.PK.drew HS.out | ((with_reducible repeat (first | exact HS.out | apply spec_rv.PK.drewN | apply spec_rv.PK.drew)); done))).z.s)).mono ?_; rintro e w2_ ⟨rfl, rfl⟩))
              all_goals go_wp2
              all_goals (refine bodyPost_ret (results_ctt rfl _ _ gr 33 #[.int .i64 0, .int .i64 0, .slice none 0 0, .slice none 0 0, .slice none 0 0, .int .i64 0, .int .i64 0, .int .i64 0] (0, 0) _ rfl (by (with_reducible repeat (first | refine blk_drewN ?_ _ | refine blk_drew ?_ | refine blk_alloc ?_ _)); refine blk_put (cs := #[.int .i64 0, .int .i64 0, .slice none 0 0, .slice none 0 0, .slice none 0 0, .int .i64 0, .int .i64 0, .int .i64 0]) ?_ 7 _ rfl; (with_reducible repeat (first | refine blk_drewN ?_ _ | refine blk_drew ?_ | refine blk_alloc ?_ _)); refine blk_put (cs := #[.int .i64 0, .int .i64 0, .slice none 0 0, .slice none 0 0, .slice none 0 0, .int .i64 0, .int .i64 0, .int .i64 0]) ?_ 6 _ rfl; (with_reducible repeat (first | refine blk_drewN ?_ _ | refine blk_drew ?_ | refine blk_alloc ?_ _)); refine blk_put (cs := #[.int .i64 0, .int .i64 0, .slice none 0 0, .slice none 0 0, .slice none 0 0, .int .i64 0, .int .i64 0, .int .i64 0]) ?_ 5 _ rfl; (with_reducible repeat (first | refine blk_drewN ?_ _ | refine blk_drew ?_ | refine blk_alloc ?_ _)); refine blk_put (cs := #[.int .i64 0, .int .i64 0, .slice none 0 0, .slice none 0 0, .slice none 0 0, .int .i64 0, .int .i64 0, .int .i64 0]) ?_ 4 _ rfl; (with_reducible repeat (first | refine blk_drewN ?_ _ | refine blk_drew ?_ | refine blk_alloc ?_ _)); refine blk_put (cs := #[.int .i64 0, .int .i64 0, .slice none 0 0, .slice none 0 0, .slice none 0 0, .int .i64 0, .int .i64 0, .int .i64 0]) ?_ 3 _ rfl; (with_reducible repeat (first | refine blk_drewN ?_ _ | refine blk_drew ?_ | refine blk_alloc ?_ _)); refine blk_put (cs := #[.int .i64 0, .int .i64 0, .slice none 0 0, .slice none 0 0, .slice none 0 0, .int .i64 0, .int .i64 0, .int .i64 0]) ?_ 2 _ rfl; (with_reducible repeat (first | refine blk_drewN ?_ _ | refine blk_drew ?_ | refine blk_alloc ?_ _)); refine blk_put (cs := #[.int .i64 0, .int .i64 0, .slice none 0 0, .slice none 0 0, .slice none 0 0, .int .i64 0, .int .i64 0, .int .i64 0]) ?_ 1 _ rfl; (with_reducible repeat (first | refine blk_drewN ?_ _ | refine blk_drew ?_ | refine blk_alloc ?_ _)); refine blk_put (cs := #[.int .i64 0, .int .i64 0, .slice none 0 0, .slice none 0 0, .slice none 0 0, .int .i64 0, .int .i64 0, .int .i64 0]) ?_ 0 _ rfl; (with_reducible repeat (first | refine blk_drewN ?_ _ | refine blk_drew ?_ | refine blk_alloc ?_ _)); exact HS.out.z.r) Try.underlying33 rfl (by kernel_rfl)) rfl ?_)
              all_goals (exact ⟨⟨0, none, 0, none, 0, none, 0, 0, _, rfl⟩, (by (with_reducible repeat (first | exact HS.out.z.b | refine below_set ?_ HS.out.z.gr_ | apply below_alloc | apply pw_below_drewN | apply below_drew1)); first | done | exact HS.out.z.b)⟩)
            | false =>
              rw [if_neg (by simp)] at h
              by_cases c5 : 8 < n2
              · rw [if_pos c5] at h
                have qc5 : decide (8 < n2) = true := decide_eq_true c5
                clear c5
                simp only [Option.some.injEq, Prod.mk.injEq] at h
                obtain ⟨rfl, rfl, rfl, rfl⟩ := h
                go_wp2
                go_region_with (first | (go_at_call 22; refine (spec_rv.fault_f gs A0 c0 l0 p5 _ (show spec_rv.At _ gs A0 c0 l0 p5 false from (show spec_rv.PK w _ gr gn gs gh A0 c0 l0 p5 false #[.int .i64 0, .int .i64 ver, .slice Ad dd.length cd, .slice none 0 0, .slice none 0 0, .int .i64 0, .int .i64 0, .int .i64 0] from (by first | done | exact HS.out | exact spec_rv.PK.drewN HS.out _ | exact spec_rv.PK.drew HS.out | ((with_reducible repeat (first | exact HS.out | apply spec_rv.PK.drewN | apply spec_rv.PK.drew)); done))).z.s)).mono ?_; rintro e w2_ ⟨rfl, rfl⟩))
                all_goals go_wp2
                all_goals (refine bodyPost_ret (results_ctt rfl _ _ gr 33 #[.int .i64 0, .int .i64 0, .slice none 0 0, .slice none 0 0, .slice none 0 0, .int .i64 0, .int .i64 0, .int .i64 0] (0, 0) _ rfl (by (with_reducible repeat (first | refine blk_drewN ?_ _ | refine blk_drew ?_ | refine blk_alloc ?_ _)); refine blk_put (cs := #[.int .i64 0, .int .i64 0, .slice none 0 0, .slice none 0 0, .slice none 0 0, .int .i64 0, .int .i64 0, .int .i64 0]) ?_ 7 _ rfl; (with_reducible repeat (first | refine blk_drewN ?_ _ | refine blk_drew ?_ | refine blk_alloc ?_ _)); refine blk_put (cs := #[.int .i64 0, .int .i64 0, .slice none 0 0, .slice none 0 0, .slice none 0 0, .int .i64 0, .int .i64 0, .int .i64 0]) ?_ 6 _ rfl; (with_reducible repeat (first | refine blk_drewN ?_ _ | refine blk_drew ?_ | refine blk_alloc ?_ _)); refine blk_put (cs := #[.int .i64 0, .int .i64 0, .slice none 0 0, .slice none 0 0, .slice none 0 0, .int .i64 0, .int .i64 0, .int .i64 0]) ?_ 5 _ rfl; (with_reducible repeat (first | refine blk_drewN ?_ _ | refine blk_drew ?_ | refine blk_alloc ?_ _)); refine blk_put (cs := #[.int .i64 0, .int .i64 0, .slice none 0 0, .slice none 0 0, .slice none 0 0, .int .i64 0, .int .i64 0, .int .i64 0]) ?_ 4 _ rfl; (with_reducible repeat (first | refine blk_drewN ?_ _ | refine blk_drew ?_ | refine blk_alloc ?_ _)); refine blk_put (cs := #[.int .i64 0, .int .i64 0, .slice none 0 0, .slice none 0 0, .slice none 0 0, .int .i64 0, .int .i64 0, .int .i64 0]) ?_ 3 _ rfl; (with_reducible repeat (first | refine blk_drewN ?_ _ | refine blk_drew ?_ | refine blk_alloc ?_ _)); refine blk_put (cs := #[.int .i64 0, .int .i64 0, .slice none 0 0, .slice none 0 0, .slice none 0 0, .int .i64 0, .int .i64 0, .int .i64 0]) ?_ 2 _ rfl; (with_reducible repeat (first | refine blk_drewN ?_ _ | refine blk_drew ?_ | refine blk_alloc ?_ _)); refine blk_put (cs := #[.int .i64 0, .int .i64 0, .slice none 0 0, .slice none 0 0, .slice none 0 0, .int .i64 0, .int .i64 0, .int .i64 0]) ?_ 1 _ rfl; (with_reducible repeat (first | refine blk_drewN ?_ _ | refine blk_drew ?_ | refine blk_alloc ?_ _)); refine blk_put (cs := #[.int .i64 0, .int .i64 0, .slice none 0 0, .slice none 0 0, .slice none 0 0, .int .i64 0, .int .i64 0, .int .i64 0]) ?_ 0 _ rfl; (with_reducible repeat (first | refine blk_drewN ?_ _ | refine blk_drew ?_ | refine blk_alloc ?_ _)); exact HS.out.z.r) Try.underlying33 rfl (by kernel_rfl)) rfl ?_)
                all_goals (exact ⟨⟨0, none, 0, none, 0, none, 0, 0, _, rfl⟩, (by (with_reducible repeat (first | exact HS.out.z.b | refine below_set ?_ HS.out.z.gr_ | apply below_alloc | apply pw_below_drewN | apply below_drew1)); first | done | exact HS.out.z.b)⟩)
              · rw [if_neg c5] at h
                have qc5 : decide (8 < n2) = false := decide_eq_false c5
                clear c5
                obtain ⟨⟨ss, p6, d6⟩, h_, h⟩ := Option.bind_eq_some_iff.1 h
                have H6 := Aside0.mk h_
                clear h_
                try dsimp only at h
                have H := Aside0.mk h
                clear h
                go_upto_region 22 with (first | (go_at_call 21; refine (spec_rv.tk_calls gs A0 c0 l0 p5 false n2 p6 d6 ss ss.length w _ (show spec_rv.PK w _ gr gn gs gh A0 c0 l0 p5 false #[.int .i64 0, .int .i64 ver, .slice Ad dd.length cd, .slice none 0 0, .slice none 0 0, .int .i64 0, .int .i64 0, .int .i64 0] from (by first | done | exact HS.out | exact spec_rv.PK.drewN HS.out _ | exact spec_rv.PK.drew HS.out | ((with_reducible repeat (first | exact HS.out | apply spec_rv.PK.drewN | apply spec_rv.PK.drew)); done))).z.b HS.out.z.gs_ (show spec_rv.At _ gs A0 c0 l0 p5 false from (show spec_rv.PK w _ gr gn gs gh A0 c0 l0 p5 false #[.int .i64 0, .int .i64 ver, .slice Ad dd.length cd, .slice none 0 0, .slice none 0 0, .int .i64 0, .int .i64 0, .int .i64 0] from (by first | done | exact HS.out | exact spec_rv.PK.drewN HS.out _ | exact spec_rv.PK.drew HS.out | ((with_reducible repeat (first | exact HS.out | apply spec_rv.PK.drewN | apply spec_rv.PK.drew)); done))).z.s) HI.out H6.out rfl).mono ?_; rintro e w19 ⟨As, cs, rfl, hc_, hcl_, hg_, hk_⟩; clear hc_ hcl_; have hs_ := Aside0.mk (show spec_rv.PK w w19 gr gn gs gh A0 c0 l0 p6 d6 #[.int .i64 0, .int .i64 ver, .slice Ad dd.length cd, .slice none 0 0, .slice none 0 0, .int .i64 0, .int .i64 0, .int .i64 0] from spec_rv.PK.call (show spec_rv.PK w _ gr gn gs gh A0 c0 l0 p5 false #[.int .i64 0, .int .i64 ver, .slice Ad dd.length cd, .slice none 0 0, .slice none 0 0, .int .i64 0, .int .i64 0, .int .i64 0] from (by first | done | exact HS.out | exact spec_rv.PK.drewN HS.out _ | exact spec_rv.PK.drew HS.out | ((with_reducible repeat (first | exact HS.out | apply spec_rv.PK.drewN | apply spec_rv.PK.drew)); done))) hk_ hg_); clear HS; have HS := hs_; clear hs_ hg_ hk_; clear y531 f532 y533 f534 y535 f536 y537 f538 y539 f540 y541 f542 y543 f544 y545 f546 y547 f548 y549 f550 y551 f552 y553 f554 y555 f556 y557 f558 y559 f560 y561 f562 y563 f564 y565 f566 y567 f568 y569 f570 y571 f572 y573 f574 y575 f576 y577 f578 y579 f580 y581 f582 y583 f584; obtain ⟨y585, f586, y587, f588, y589, f590⟩ := spec_rv.c3 HS.out.z.s; obtain ⟨y591, f592, y593, f594, y595, f596, y597, f598, y599, f600, y601, f602, y603, f604, y605, f606⟩ := spec_rv.c8 HS.out.h; obtain ⟨y607, f608, y609, f610, y611, f612, y613, f614, y615, f616, y617, f618, y619, f620, y621, f622⟩ := spec_rv.c8 HS.out.z.n; obtain ⟨y623, f624, y625, f626, y627, f628, y629, f630, y631, f632, y633, f634, y635, f636, y637, f638⟩ := spec_rv.c8 HS.out.z.r))
                refine spec_rv.cwp_seal (fun W_ => spec_rv.PK w W_ gr gn gs gh A0 c0 l0 p6 d6 #[.int .i64 0, .int .i64 ver, .slice Ad dd.length cd, .slice As ss.length cs, .slice none 0 0, .int .i64 0, .int .i64 0, .int .i64 0]) (by (with_reducible repeat (first | exact HS.out | apply spec_rv.PK.drewN | apply spec_rv.PK.drew)); refine spec_rv.PK.put (cs := #[.int .i64 0, .int .i64 ver, .slice Ad dd.length cd, .slice none 0 0, .slice none 0 0, .int .i64 0, .int .i64 0, .int .i64 0]) ?_ 3 _ rfl; first | done | exact HS.out | exact spec_rv.PK.drewN HS.out _ | exact spec_rv.PK.drew HS.out | ((with_reducible repeat (first | exact HS.out | apply spec_rv.PK.drewN | apply spec_rv.PK.drew)); done)) ?_
                clear HS y585 f586 y587 f588 y589 f590 y591 f592 y593 f594 y595 f596 y597 f598 y599 f600 y601 f602 y603 f604 y605 f606 y607 f608 y609 f610 y611 f612 y613 f614 y615 f616 y617 f618 y619 f620 y621 f622 y623 f624 y625 f626 y627 f628 y629 f630 y631 f632 y633 f634 y635 f636 y637 f638
                rintro w20 hs_
                have HS := Aside0.mk hs_
                clear hs_
                obtain ⟨y639, f640, y641, f642, y643, f644⟩ := spec_rv.c3 HS.out.z.s
                obtain ⟨y645, f646, y647, f648, y649, f650, y651, f652, y653, f654, y655, f656, y657, f658, y659, f660⟩ := spec_rv.c8 HS.out.h
                obtain ⟨y661, f662, y663, f664, y665, f666, y667, f668, y669, f670, y671, f672, y673, f674, y675, f676⟩ := spec_rv.c8 HS.out.z.n
                obtain ⟨y677, f678, y679, f680, y681, f682, y683, f684, y685, f686, y687, f688, y689, f690, y691, f692⟩ := spec_rv.c8 HS.out.z.r
                have h := H.out
                clear H
                cases d6 with
                | true =>
                  rw [if_pos rfl] at h
                  simp only [Option.some.injEq, Prod.mk.injEq] at h
                  obtain ⟨rfl, rfl, rfl, rfl⟩ := h
                  go_wp2
                  try (go_region; all_goals go_wp2)
                  all_goals (refine bodyPost_ret (results_ctt rfl _ _ gr 33 #[.int .i64 0, .int .i64 0, .slice none 0 0, .slice none 0 0, .slice none 0 0, .int .i64 0, .int .i64 0, .int .i64 0] (0, 0) _ rfl (by (with_reducible repeat (first | refine blk_drewN ?_ _ | refine blk_drew ?_ | refine blk_alloc ?_ _)); refine blk_put (cs := #[.int .i64 0, .int .i64 0, .slice none 0 0, .slice none 0 0, .slice none 0 0, .int .i64 0, .int .i64 0, .int .i64 0]) ?_ 7 _ rfl; (with_reducible repeat (first | refine blk_drewN ?_ _ | refine blk_drew ?_ | refine blk_alloc ?_ _)); refine blk_put (cs := #[.int .i64 0, .int .i64 0, .slice none 0 0, .slice none 0 0, .slice none 0 0, .int .i64 0, .int .i64 0, .int .i64 0]) ?_ 6 _ rfl; (with_reducible repeat (first | refine blk_drewN ?_ _ | refine blk_drew ?_ | refine blk_alloc ?_ _)); refine blk_put (cs := #[.int .i64 0, .int .i64 0, .slice none 0 0, .slice none 0 0, .slice none 0 0, .int .i64 0, .int .i64 0, .int .i64 0]) ?_ 5 _ rfl; (with_reducible repeat (first | refine blk_drewN ?_ _ | refine blk_drew ?_ | refine blk_alloc ?_ _)); refine blk_put (cs := #[.int .i64 0, .int .i64 0, .slice none 0 0, .slice none 0 0, .slice none 0 0, .int .i64 0, .int .i64 0, .int .i64 0]) ?_ 4 _ rfl; (with_reducible repeat (first | refine blk_drewN ?_ _ | refine blk_drew ?_ | refine blk_alloc ?_ _)); refine blk_put (cs := #[.int .i64 0, .int .i64 0, .slice none 0 0, .slice none 0 0, .slice none 0 0, .int .i64 0, .int .i64 0, .int .i64 0]) ?_ 3 _ rfl; (with_reducible repeat (first | refine blk_drewN ?_ _ | refine blk_drew ?_ | refine blk_alloc ?_ _)); refine blk_put (cs := #[.int .i64 0, .int .i64 0, .slice none 0 0, .slice none 0 0, .slice none 0 0, .int .i64 0, .int .i64 0, .int .i64 0]) ?_ 2 _ rfl; (with_reducible repeat (first | refine blk_drewN ?_ _ | refine blk_drew ?_ | refine blk_alloc ?_ _)); refine blk_put (cs := #[.int .i64 0, .int .i64 0, .slice none 0 0, .slice none 0 0, .slice none 0 0, .int .i64 0, .int .i64 0, .int .i64 0]) ?_ 1 _ rfl; (with_reducible repeat (first | refine blk_drewN ?_ _ | refine blk_drew ?_ | refine blk_alloc ?_ _)); refine blk_put (cs := #[.int .i64 0, .int .i64 0, .slice none 0 0, .slice none 0 0, .slice none 0 0, .int .i64 0, .int .i64 0, .int .i64 0]) ?_ 0 _ rfl; (with_reducible repeat (first | refine blk_drewN ?_ _ | refine blk_drew ?_ | refine blk_alloc ?_ _)); exact HS.out.z.r) Try.underlying33 rfl (by kernel_rfl)) rfl ?_)
                  all_goals (exact ⟨⟨0, none, 0, none, 0, none, 0, 0, _, rfl⟩, (by (with_reducible repeat (first | exact HS.out.z.b | refine below_set ?_ HS.out.z.gr_ | apply below_alloc | apply pw_below_drewN | apply below_drew1)); first | done | exact HS.out.z.b)⟩)
                | false =>
                  rw [if_neg (by simp)] at h
                  unfold spec_rv.rest2 at h
                  by_cases c6 : ver = 0
                  · rw [if_pos c6] at h
                    have q6 : (ver == 0) = true := beq_iff_eq.2 c6
                    clear c6
                    have H := Aside0.mk h
                    clear h
                    go_upto_region 26 with (fail)
                    refine spec_rv.cwp_seal (fun W_ => spec_rv.PK w W_ gr gn gs gh A0 c0 l0 p6 false #[.int .i64 5, .int .i64 ver, .slice Ad dd.length cd, .slice As ss.length cs, .slice none 0 0, .int .i64 0, .int .i64 0, .int .i64 0]) (by (with_reducible repeat (first | exact HS.out | apply spec_rv.PK.drewN | apply spec_rv.PK.drew)); refine spec_rv.PK.put (cs := #[.int .i64 0, .int .i64 ver, .slice Ad dd.length cd, .slice As ss.length cs, .slice none 0 0, .int .i64 0, .int .i64 0, .int .i64 0]) ?_ 0 _ rfl; first | done | exact HS.out | exact spec_rv.PK.drewN HS.out _ | exact spec_rv.PK.drew HS.out | ((with_reducible repeat (first | exact HS.out | apply spec_rv.PK.drewN | apply spec_rv.PK.drew)); done)) ?_
                    clear HS y639 f640 y641 f642 y643 f644 y645 f646 y647 f648 y649 f650 y651 f652 y653 f654 y655 f656 y657 f658 y659 f660 y661 f662 y663 f664 y665 f666 y667 f668 y669 f670 y671 f672 y673 f674 y675 f676 y677 f678 y679 f680 y681 f682 y683 f684 y685 f686 y687 f688 y689 f690 y691 f692
                    rintro w21 hs_
                    have HS := Aside0.mk hs_
                    clear hs_
                    obtain ⟨y693, f694, y695, f696, y697, f698⟩ := spec_rv.c3 HS.out.z.s
                    obtain ⟨y699, f700, y701, f702, y703, f704, y705, f706, y707, f708, y709, f710, y711, f712, y713, f714⟩ := spec_rv.c8 HS.out.h
                    obtain ⟨y715, f716, y717, f718, y719, f720, y721, f722, y723, f724, y725, f726, y727, f728, y729, f730⟩ := spec_rv.c8 HS.out.z.n
                    obtain ⟨y731, f732, y733, f734, y735, f736, y737, f738, y739, f740, y741, f742, y743, f744, y745, f746⟩ := spec_rv.c8 HS.out.z.r
                    have h := H.out
                    clear H
                    by_cases c7 : f = 128
                    · rw [if_pos c7] at h
                      have q7 : (f != 128) = false := by rw [c7]; rfl
                      clear c7
                      obtain ⟨ov, h_, h⟩ := Option.bind_eq_some_iff.1 h
                      have HV := Aside0.mk h_
                      clear h_
                      obtain ⟨no, hno⟩ : ∃ n : Nat, n = ov.length := ⟨_, rfl⟩
                      rw [← hno] at h
                      have H := Aside0.mk h
                      clear h
                      have HNO := Aside0.mk hno
                      clear hno
                      by_cases c8 : no = 0
                      · have q8 : ((no : Int) == 0) = true := by rw [c8]; rfl
                        have h := H.out
                        clear H
                        rw [if_pos c8] at h
                        clear c8
                        simp only [Option.some.injEq, Prod.mk.injEq] at h
                        obtain ⟨rfl, rfl, rfl, rfl⟩ := h
                        go_upto_region 27 with (first | (go_at_call 13; refine (spec_rv.vers_calls k gs A0 c0 l0 p6 ov w _ (show spec_rv.PK w _ gr gn gs gh A0 c0 l0 p6 false #[.int .i64 5, .int .i64 ver, .slice Ad dd.length cd, .slice As ss.length cs, .slice none 0 0, .int .i64 0, .int .i64 0, .int .i64 0] from (by first | done | exact HS.out | exact spec_rv.PK.drewN HS.out _ | exact spec_rv.PK.drew HS.out | ((with_reducible repeat (first | exact HS.out | apply spec_rv.PK.drewN | apply spec_rv.PK.drew)); done))).z.b HS.out.z.gs_ (show spec_rv.At _ gs A0 c0 l0 p6 false from (show spec_rv.PK w _ gr gn gs gh A0 c0 l0 p6 false #[.int .i64 5, .int .i64 ver, .slice Ad dd.length cd, .slice As ss.length cs, .slice none 0 0, .int .i64 0, .int .i64 0, .int .i64 0] from (by first | done | exact HS.out | exact spec_rv.PK.drewN HS.out _ | exact spec_rv.PK.drew HS.out | ((with_reducible repeat (first | exact HS.out | apply spec_rv.PK.drewN | apply spec_rv.PK.drew)); done))).z.s) HI.out HV.out).mono ?_; rintro e w22 ⟨vv, a2, c2, rfl, ho_, hg_, hk_⟩; obtain ⟨Av, cv, rfl⟩ := Kd.R_slice ho_; rw [← HNO.out]; clear ho_; have hs_ := Aside0.mk (show spec_rv.PK w w22 gr gn gs gh A0 c0 l0 a2 c2 #[.int .i64 5, .int .i64 ver, .slice Ad dd.length cd, .slice As ss.length cs, .slice none 0 0, .int .i64 0, .int .i64 0, .int .i64 0] from spec_rv.PK.call (show spec_rv.PK w _ gr gn gs gh A0 c0 l0 p6 false #[.int .i64 5, .int .i64 ver, .slice Ad dd.length cd, .slice As ss.length cs, .slice none 0 0, .int .i64 0, .int .i64 0, .int .i64 0] from (by first | done | exact HS.out | exact spec_rv.PK.drewN HS.out _ | exact spec_rv.PK.drew HS.out | ((with_reducible repeat (first | exact HS.out | apply spec_rv.PK.drewN | apply spec_rv.PK.drew)); done))) hk_ hg_); clear HS; have HS := hs_; clear hs_ hg_ hk_; clear y693 f694 y695 f696 y697 f698 y699 f700 y701 f702 y703 f704 y705 f706 y707 f708 y709 f710 y711 f712 y713 f714 y715 f716 y717 f718 y719 f720 y721 f722 y723 f724 y725 f726 y727 f728 y729 f730 y731 f732 y733 f734 y735 f736 y737 f738 y739 f740 y741 f742 y743 f744 y745 f746; obtain ⟨y747, f748, y749, f750, y751, f752⟩ := spec_rv.c3 HS.out.z.s; obtain ⟨y753, f754, y755, f756, y757, f758, y759, f760, y761, f762, y763, f764, y765, f766, y767, f768⟩ := spec_rv.c8 HS.out.h; obtain ⟨y769, f770, y771, f772, y773, f774, y775, f776, y777, f778, y779, f780, y781, f782, y783, f784⟩ := spec_rv.c8 HS.out.z.n; obtain ⟨y785, f786, y787, f788, y789, f790, y791, f792, y793, f794, y795, f796, y797, f798, y799, f800⟩ := spec_rv.c8 HS.out.z.r))
                        go_wp2
                        try (go_region; all_goals go_wp2)
                        all_goals (refine bodyPost_ret (results_ctt rfl _ _ gr 33 #[.int .i64 0, .int .i64 0, .slice none 0 0, .slice none 0 0, .slice none 0 0, .int .i64 0, .int .i64 0, .int .i64 0] (0, 0) _ rfl (by (with_reducible repeat (first | refine blk_drewN ?_ _ | refine blk_drew ?_ | refine blk_alloc ?_ _)); refine blk_put (cs := #[.int .i64 0, .int .i64 0, .slice none 0 0, .slice none 0 0, .slice none 0 0, .int .i64 0, .int .i64 0, .int .i64 0]) ?_ 7 _ rfl; (with_reducible repeat (first | refine blk_drewN ?_ _ | refine blk_drew ?_ | refine blk_alloc ?_ _)); refine blk_put (cs := #[.int .i64 0, .int .i64 0, .slice none 0 0, .slice none 0 0, .slice none 0 0, .int .i64 0, .int .i64 0, .int .i64 0]) ?_ 6 _ rfl; (with_reducible repeat (first | refine blk_drewN ?_ _ | refine blk_drew ?_ | refine blk_alloc ?_ _)); refine blk_put (cs := #[.int .i64 0, .int .i64 0, .slice none 0 0, .slice none 0 0, .slice none 0 0, .int .i64 0, .int .i64 0, .int .i64 0]) ?_ 5 _ rfl; (with_reducible repeat (first | refine blk_drewN ?_ _ | refine blk_drew ?_ | refine blk_alloc ?_ _)); refine blk_put (cs := #[.int .i64 0, .int .i64 0, .slice none 0 0, .slice none 0 0, .slice none 0 0, .int .i64 0, .int .i64 0, .int .i64 0]) ?_ 4 _ rfl; (with_reducible repeat (first | refine blk_drewN ?_ _ | refine blk_drew ?_ | refine blk_alloc ?_ _)); refine blk_put (cs := #[.int .i64 0, .int .i64 0, .slice none 0 0, .slice none 0 0, .slice none 0 0, .int .i64 0, .int .i64 0, .int .i64 0]) ?_ 3 _ rfl; (with_reducible repeat (first | refine blk_drewN ?_ _ | refine blk_drew ?_ | refine blk_alloc ?_ _)); refine blk_put (cs := #[.int .i64 0, .int .i64 0, .slice none 0 0, .slice none 0 0, .slice none 0 0, .int .i64 0, .int .i64 0, .int .i64 0]) ?_ 2 _ rfl; (with_reducible repeat (first | refine blk_drewN ?_ _ | refine blk_drew ?_ | refine blk_alloc ?_ _)); refine blk_put (cs := #[.int .i64 0, .int .i64 0, .slice none 0 0, .slice none 0 0, .slice none 0 0, .int .i64 0, .int .i64 0, .int .i64 0]) ?_ 1 _ rfl; (with_reducible repeat (first | refine blk_drewN ?_ _ | refine blk_drew ?_ | refine blk_alloc ?_ _)); refine blk_put (cs := #[.int .i64 0, .int .i64 0, .slice none 0 0, .slice none 0 0, .slice none 0 0, .int .i64 0, .int .i64 0, .int .i64 0]) ?_ 0 _ rfl; (with_reducible repeat (first | refine blk_drewN ?_ _ | refine blk_drew ?_ | refine blk_alloc ?_ _)); exact HS.out.z.r) Try.underlying33 rfl (by kernel_rfl)) rfl ?_)
                        all_goals (exact ⟨⟨0, none, 0, none, 0, none, 0, 0, _, rfl⟩, (by (with_reducible repeat (first | exact HS.out.z.b | refine below_set ?_ HS.out.z.gr_ | apply below_alloc | apply pw_below_drewN | apply below_drew1)); first | done | exact HS.out.z.b)⟩)
                      · have q8 : ((no : Int) == 0) = false := beq_eq_false_iff_ne.2 (by omega)
                        have h := H.out
                        clear H
                        rw [if_neg c8] at h
                        clear c8
                        simp only [Option.some.injEq, Prod.mk.injEq] at h
                        obtain ⟨rfl, rfl, rfl, rfl⟩ := h
                        go_upto_region 28 with (first | (go_at_call 13; refine (spec_rv.vers_calls k gs A0 c0 l0 p6 ov w _ (show spec_rv.PK w _ gr gn gs gh A0 c0 l0 p6 false #[.int .i64 5, .int .i64 ver, .slice Ad dd.length cd, .slice As ss.length cs, .slice none 0 0, .int .i64 0, .int .i64 0, .int .i64 0] from (by first | done | exact HS.out | exact spec_rv.PK.drewN HS.out _ | exact spec_rv.PK.drew HS.out | ((with_reducible repeat (first | exact HS.out | apply spec_rv.PK.drewN | apply spec_rv.PK.drew)); done))).z.b HS.out.z.gs_ (show spec_rv.At _ gs A0 c0 l0 p6 false from (show spec_rv.PK w _ gr gn gs gh A0 c0 l0 p6 false #[.int .i64 5, .int .i64 ver, .slice Ad dd.length cd, .slice As ss.length cs, .slice none 0 0, .int .i64 0, .int .i64 0, .int .i64 0] from (by first | done | exact HS.out | exact spec_rv.PK.drewN HS.out _ | exact spec_rv.PK.drew HS.out | ((with_reducible repeat (first | exact HS.out | apply spec_rv.PK.drewN | apply spec_rv.PK.drew)); done))).z.s) HI.out HV.out).mono ?_; rintro e w22 ⟨vv, a2, c2, rfl, ho_, hg_, hk_⟩; obtain ⟨Av, cv, rfl⟩ := Kd.R_slice ho_; rw [← HNO.out]; clear ho_; have hs_ := Aside0.mk (show spec_rv.PK w w22 gr gn gs gh A0 c0 l0 a2 c2 #[.int .i64 5, .int .i64 ver, .slice Ad dd.length cd, .slice As ss.length cs, .slice none 0 0, .int .i64 0, .int .i64 0, .int .i64 0] from spec_rv.PK.call (show spec_rv.PK w _ gr gn gs gh A0 c0 l0 p6 false #[.int .i64 5, .int .i64 ver, .slice Ad dd.length cd, .slice As ss.length cs, .slice none 0 0, .int .i64 0, .int .i64 0, .int .i64 0] from (by first | done | exact HS.out | exact spec_rv.PK.drewN HS.out _ | exact spec_rv.PK.drew HS.out | ((with_reducible repeat (first | exact HS.out | apply spec_rv.PK.drewN | apply spec_rv.PK.drew)); done))) hk_ hg_); clear HS; have HS := hs_; clear hs_ hg_ hk_; clear y693 f694 y695 f696 y697 f698 y699 f700 y701 f702 y703 f704 y705 f706 y707 f708 y709 f710 y711 f712 y713 f714 y715 f716 y717 f718 y719 f720 y721 f722 y723 f724 y725 f726 y727 f728 y729 f730 y731 f732 y733 f734 y735 f736 y737 f738 y739 f740 y741 f742 y743 f744 y745 f746; obtain ⟨y747, f748, y749, f750, y751, f752⟩ := spec_rv.c3 HS.out.z.s; obtain ⟨y753, f754, y755, f756, y757, f758, y759, f760, y761, f762, y763, f764, y765, f766, y767, f768⟩ := spec_rv.c8 HS.out.h; obtain ⟨y769, f770, y771, f772, y773, f774, y775, f776, y777, f778, y779, f780, y781, f782, y783, f784⟩ := spec_rv.c8 HS.out.z.n; obtain ⟨y785, f786, y787, f788, y789, f790, y791, f792, y793, f794, y795, f796, y797, f798, y799, f800⟩ := spec_rv.c8 HS.out.z.r))
                        go_wp2
                        try (go_region; all_goals go_wp2)
                        all_goals (refine bodyPost_ret (results_ctt rfl _ _ gr 33 #[.int .i64 5, .int .i64 ver, .slice Ad dd.length cd, .slice As ss.length cs, .slice none 0 0, .int .i64 0, .int .i64 0, .int .i64 0] (0, 0) _ rfl (by (with_reducible repeat (first | refine blk_drewN ?_ _ | refine blk_drew ?_ | refine blk_alloc ?_ _)); refine blk_put (cs := #[.int .i64 5, .int .i64 ver, .slice Ad dd.length cd, .slice As ss.length cs, .slice none 0 0, .int .i64 0, .int .i64 0, .int .i64 0]) ?_ 7 _ rfl; (with_reducible repeat (first | refine blk_drewN ?_ _ | refine blk_drew ?_ | refine blk_alloc ?_ _)); refine blk_put (cs := #[.int .i64 5, .int .i64 ver, .slice Ad dd.length cd, .slice As ss.length cs, .slice none 0 0, .int .i64 0, .int .i64 0, .int .i64 0]) ?_ 6 _ rfl; (with_reducible repeat (first | refine blk_drewN ?_ _ | refine blk_drew ?_ | refine blk_alloc ?_ _)); refine blk_put (cs := #[.int .i64 5, .int .i64 ver, .slice Ad dd.length cd, .slice As ss.length cs, .slice none 0 0, .int .i64 0, .int .i64 0, .int .i64 0]) ?_ 5 _ rfl; (with_reducible repeat (first | refine blk_drewN ?_ _ | refine blk_drew ?_ | refine blk_alloc ?_ _)); refine blk_put (cs := #[.int .i64 5, .int .i64 ver, .slice Ad dd.length cd, .slice As ss.length cs, .slice none 0 0, .int .i64 0, .int .i64 0, .int .i64 0]) ?_ 4 _ rfl; (with_reducible repeat (first | refine blk_drewN ?_ _ | refine blk_drew ?_ | refine blk_alloc ?_ _)); refine blk_put (cs := #[.int .i64 5, .int .i64 ver, .slice Ad dd.length cd, .slice none 0 0, .slice none 0 0, .int .i64 0, .int .i64 0, .int .i64 0]) ?_ 3 _ rfl; (with_reducible repeat (first | refine blk_drewN ?_ _ | refine blk_drew ?_ | refine blk_alloc ?_ _)); refine blk_put (cs := #[.int .i64 5, .int .i64 ver, .slice none 0 0, .slice none 0 0, .slice none 0 0, .int .i64 0, .int .i64 0, .int .i64 0]) ?_ 2 _ rfl; (with_reducible repeat (first | refine blk_drewN ?_ _ | refine blk_drew ?_ | refine blk_alloc ?_ _)); refine blk_put (cs := #[.int .i64 5, .int .i64 0, .slice none 0 0, .slice none 0 0, .slice none 0 0, .int .i64 0, .int .i64 0, .int .i64 0]) ?_ 1 _ rfl; (with_reducible repeat (first | refine blk_drewN ?_ _ | refine blk_drew ?_ | refine blk_alloc ?_ _)); refine blk_put (cs := #[.int .i64 0, .int .i64 0, .slice none 0 0, .slice none 0 0, .slice none 0 0, .int .i64 0, .int .i64 0, .int .i64 0]) ?_ 0 _ rfl; (with_reducible repeat (first | refine blk_drewN ?_ _ | refine blk_drew ?_ | refine blk_alloc ?_ _)); exact HS.out.z.r) Try.underlying33 rfl (by kernel_rfl)) rfl ?_)
                        all_goals (exact ⟨⟨ver, Ad, cd, As, cs, none, 0, 0, _, rfl⟩, (by (with_reducible repeat (first | exact HS.out.z.b | refine below_set ?_ HS.out.z.gr_ | apply below_alloc | apply pw_below_drewN | apply below_drew1)); first | done | exact HS.out.z.b)⟩)
                    · rw [if_neg c7] at h
                      have q7 : (f != 128) = true := bne_iff_ne.2 c7
                      clear c7
                      simp only [Option.some.injEq, Prod.mk.injEq] at h
                      obtain ⟨rfl, rfl, rfl, rfl⟩ := h
                      go_wp2
                      try (go_region; all_goals go_wp2)
                      all_goals (refine bodyPost_ret (results_ctt rfl _ _ gr 33 #[.int .i64 0, .int .i64 0, .slice none 0 0, .slice none 0 0, .slice none 0 0, .int .i64 0, .int .i64 0, .int .i64 0] (0, 0) _ rfl (by (with_reducible repeat (first | refine blk_drewN ?_ _ | refine blk_drew ?_ | refine blk_alloc ?_ _)); refine blk_put (cs := #[.int .i64 0, .int .i64 0, .slice none 0 0, .slice none 0 0, .slice none 0 0, .int .i64 0, .int .i64 0, .int .i64 0]) ?_ 7 _ rfl; (with_reducible repeat (first | refine blk_drewN ?_ _ | refine blk_drew ?_ | refine blk_alloc ?_ _)); refine blk_put (cs := #[.int .i64 0, .int .i64 0, .slice none 0 0, .slice none 0 0, .slice none 0 0, .int .i64 0, .int .i64 0, .int .i64 0]) ?_ 6 _ rfl; (with_reducible repeat (first | refine blk_drewN ?_ _ | refine blk_drew ?_ | refine blk_alloc ?_ _)); refine blk_put (cs := #[.int .i64 0, .int .i64 0, .slice none 0 0, .slice none 0 0, .slice none 0 0, .int .i64 0, .int .i64 0, .int .i64 0]) ?_ 5 _ rfl; (with_reducible repeat (first | refine blk_drewN ?_ _ | refine blk_drew ?_ | refine blk_alloc ?_ _)); refine blk_put (cs := #[.int .i64 0, .int .i64 0, .slice none 0 0, .slice none 0 0, .slice none 0 0, .int .i64 0, .int .i64 0, .int .i64 0]) ?_ 4 _ rfl; (with_reducible repeat (first | refine blk_drewN ?_ _ | refine blk_drew ?_ | refine blk_alloc ?_ _)); refine blk_put (cs := #[.int .i64 0, .int .i64 0, .slice none 0 0, .slice none 0 0, .slice none 0 0, .int .i64 0, .int .i64 0, .int .i64 0]) ?_ 3 _ rfl; (with_reducible repeat (first | refine blk_drewN ?_ _ | refine blk_drew ?_ | refine blk_alloc ?_ _)); refine blk_put (cs := #[.int .i64 0, .int .i64 0, .slice none 0 0, .slice none 0 0, .slice none 0 0, .int .i64 0, .int .i64 0, .int .i64 0]) ?_ 2 _ rfl; (with_reducible repeat (first | refine blk_drewN ?_ _ | refine blk_drew ?_ | refine blk_alloc ?_ _)); refine blk_put (cs := #[.int .i64 0, .int .i64 0, .slice none 0 0, .slice none 0 0, .slice none 0 0, .int .i64 0, .int .i64 0, .int .i64 0]) ?_ 1 _ rfl; (with_reducible repeat (first | refine blk_drewN ?_ _ | refine blk_drew ?_ | refine blk_alloc ?_ _)); refine blk_put (cs := #[.int .i64 0, .int .i64 0, .slice none 0 0, .slice none 0 0, .slice none 0 0, .int .i64 0, .int .i64 0, .int .i64 0]) ?_ 0 _ rfl; (with_reducible repeat (first | refine blk_drewN ?_ _ | refine blk_drew ?_ | refine blk_alloc ?_ _)); exact HS.out.z.r) Try.underlying33 rfl (by kernel_rfl)) rfl ?_)
                      all_goals (exact ⟨⟨0, none, 0, none, 0, none, 0, 0, _, rfl⟩, (by (with_reducible repeat (first | exact HS.out.z.b | refine below_set ?_ HS.out.z.gr_ | apply below_alloc | apply pw_below_drewN | apply below_drew1)); first | done | exact HS.out.z.b)⟩)
                  · rw [if_neg c6] at h
                    have q6 : (ver == 0) = false := beq_eq_false_iff_ne.2 c6
                    clear c6
                    have e8 : (wrap64 (f - 192)).tdiv 16 = spec_rv.quo f := rfl
                    have eQ : IntKind.i64.wrap (spec_rv.quo f) = spec_rv.quo f := (IntWalk.i64_left _).trans (spec_rv.quo_in f)
                    generalize spec_rv.quo f = qb at h e8 eQ
                    have H := Aside0.mk h
                    clear h
                    go_upto_region 30 with (fail)
                    clear e8 eQ q6
                    refine spec_rv.cwp_seal (fun W_ => spec_rv.PK w W_ gr gn gs gh A0 c0 l0 p6 false #[.int .i64 0, .int .i64 ver, .slice Ad dd.length cd, .slice As ss.length cs, .slice none 0 0, .int .i64 0, .int .i64 0, .int .i64 0]) (by first | done | exact HS.out | exact spec_rv.PK.drewN HS.out _ | exact spec_rv.PK.drew HS.out | ((with_reducible repeat (first | exact HS.out | apply spec_rv.PK.drewN | apply spec_rv.PK.drew)); done)) ?_
                    clear HS y639 f640 y641 f642 y643 f644 y645 f646 y647 f648 y649 f650 y651 f652 y653 f654 y655 f656 y657 f658 y659 f660 y661 f662 y663 f664 y665 f666 y667 f668 y669 f670 y671 f672 y673 f674 y675 f676 y677 f678 y679 f680 y681 f682 y683 f684 y685 f686 y687 f688 y689 f690 y691 f692
                    rintro w21 hs_
                    have HS := Aside0.mk hs_
                    clear hs_
                    obtain ⟨y693, f694, y695, f696, y697, f698⟩ := spec_rv.c3 HS.out.z.s
                    obtain ⟨y699, f700, y701, f702, y703, f704, y705, f706, y707, f708, y709, f710, y711, f712, y713, f714⟩ := spec_rv.c8 HS.out.h
                    obtain ⟨y715, f716, y717, f718, y719, f720, y721, f722, y723, f724, y725, f726, y727, f728, y729, f730⟩ := spec_rv.c8 HS.out.z.n
                    obtain ⟨y731, f732, y733, f734, y735, f736, y737, f738, y739, f740, y741, f742, y743, f744, y745, f746⟩ := spec_rv.c8 HS.out.z.r
                    have h := H.out
                    clear H
                    by_cases c8 : f < 192
                    · rw [if_pos (.inl c8)] at h
                      have q8 : decide (f < 192) = true := decide_eq_true c8
                      clear c8
                      simp only [Option.some.injEq, Prod.mk.injEq] at h
                      obtain ⟨rfl, rfl, rfl, rfl⟩ := h
                      go_wp2
                      try (go_region; all_goals go_wp2)
                      all_goals (refine bodyPost_ret (results_ctt rfl _ _ gr 33 #[.int .i64 0, .int .i64 0, .slice none 0 0, .slice none 0 0, .slice none 0 0, .int .i64 0, .int .i64 0, .int .i64 0] (0, 0) _ rfl (by (with_reducible repeat (first | refine blk_drewN ?_ _ | refine blk_drew ?_ | refine blk_alloc ?_ _)); refine blk_put (cs := #[.int .i64 0, .int .i64 0, .slice none 0 0, .slice none 0 0, .slice none 0 0, .int .i64 0, .int .i64 0, .int .i64 0]) ?_ 7 _ rfl; (with_reducible repeat (first | refine blk_drewN ?_ _ | refine blk_drew ?_ | refine blk_alloc ?_ _)); refine blk_put (cs := #[.int .i64 0, .int .i64 0, .slice none 0 0, .slice none 0 0, .slice none 0 0, .int .i64 0, .int .i64 0, .int .i64 0]) ?_ 6 _ rfl; (with_reducible repeat (first | refine blk_drewN ?_ _ | refine blk_drew ?_ | refine blk_alloc ?_ _)); refine blk_put (cs := #[.int .i64 0, .int .i64 0, .slice none 0 0, .slice none 0 0, .slice none 0 0, .int .i64 0, .int .i64 0, .int .i64 0]) ?_ 5 _ rfl; (with_reducible repeat (first | refine blk_drewN ?_ _ | refine blk_drew ?_ | refine blk_alloc ?_ _)); refine blk_put (cs := #[.int .i64 0, .int .i64 0, .slice none 0 0, .slice none 0 0, .slice none 0 0, .int .i64 0, .int .i64 0, .int .i64 0]) ?_ 4 _ rfl; (with_reducible repeat (first | refine blk_drewN ?_ _ | refine blk_drew ?_ | refine blk_alloc ?_ _)); refine blk_put (cs := #[.int .i64 0, .int .i64 0, .slice none 0 0, .slice none 0 0, .slice none 0 0, .int .i64 0, .int .i64 0, .int .i64 0]) ?_ 3 _ rfl; (with_reducible repeat (first | refine blk_drewN ?_ _ | refine blk_drew ?_ | refine blk_alloc ?_ _)); refine blk_put (cs := #[.int .i64 0, .int .i64 0, .slice none 0 0, .slice none 0 0, .slice none 0 0, .int .i64 0, .int .i64 0, .int .i64 0]) ?_ 2 _ rfl; (with_reducible repeat (first | refine blk_drewN ?_ _ | refine blk_drew ?_ | refine blk_alloc ?_ _)); refine blk_put (cs := #[.int .i64 0, .int .i64 0, .slice none 0 0, .slice none 0 0, .slice none 0 0, .int .i64 0, .int .i64 0, .int .i64 0]) ?_ 1 _ rfl; (with_reducible repeat (first | refine blk_drewN ?_ _ | refine blk_drew ?_ | refine blk_alloc ?_ _)); refine blk_put (cs := #[.int .i64 0, .int .i64 0, .slice none 0 0, .slice none 0 0, .slice none 0 0, .int .i64 0, .int .i64 0, .int .i64 0]) ?_ 0 _ rfl; (with_reducible repeat (first | refine blk_drewN ?_ _ | refine blk_drew ?_ | refine blk_alloc ?_ _)); exact HS.out.z.r) Try.underlying33 rfl (by kernel_rfl)) rfl ?_)
                      all_goals (exact ⟨⟨0, none, 0, none, 0, none, 0, 0, _, rfl⟩, (by (with_reducible repeat (first | exact HS.out.z.b | refine below_set ?_ HS.out.z.gr_ | apply below_alloc | apply pw_below_drewN | apply below_drew1)); first | done | exact HS.out.z.b)⟩)
                    · have q8 : decide (f < 192) = false := decide_eq_false c8
                      by_cases c9 : qb = 1
                      · rw [if_pos (.inr c9)] at h
                        have q9 : (qb == 1) = true := beq_iff_eq.2 c9
                        clear c8 c9
                        simp only [Option.some.injEq, Prod.mk.injEq] at h
                        obtain ⟨rfl, rfl, rfl, rfl⟩ := h
                        go_wp2
                        try (go_region; all_goals go_wp2)
                        all_goals (refine bodyPost_ret (results_ctt rfl _ _ gr 33 #[.int .i64 0, .int .i64 0, .slice none 0 0, .slice none 0 0, .slice none 0 0, .int .i64 0, .int .i64 0, .int .i64 0] (0, 0) _ rfl (by (with_reducible repeat (first | refine blk_drewN ?_ _ | refine blk_drew ?_ | refine blk_alloc ?_ _)); refine blk_put (cs := #[.int .i64 0, .int .i64 0, .slice none 0 0, .slice none 0 0, .slice none 0 0, .int .i64 0, .int .i64 0, .int .i64 0]) ?_ 7 _ rfl; (with_reducible repeat (first | refine blk_drewN ?_ _ | refine blk_drew ?_ | refine blk_alloc ?_ _)); refine blk_put (cs := #[.int .i64 0, .int .i64 0, .slice none 0 0, .slice none 0 0, .slice none 0 0, .int .i64 0, .int .i64 0, .int .i64 0]) ?_ 6 _ rfl; (with_reducible repeat (first | refine blk_drewN ?_ _ | refine blk_drew ?_ | refine blk_alloc ?_ _)); refine blk_put (cs := #[.int .i64 0, .int .i64 0, .slice none 0 0, .slice none 0 0, .slice none 0 0, .int .i64 0, .int .i64 0, .int .i64 0]) ?_ 5 _ rfl; (with_reducible repeat (first | refine blk_drewN ?_ _ | refine blk_drew ?_ | refine blk_alloc ?_ _)); refine blk_put (cs := #[.int .i64 0, .int .i64 0, .slice none 0 0, .slice none 0 0, .slice none 0 0, .int .i64 0, .int .i64 0, .int .i64 0]) ?_ 4 _ rfl; (with_reducible repeat (first | refine blk_drewN ?_ _ | refine blk_drew ?_ | refine blk_alloc ?_ _)); refine blk_put (cs := #[.int .i64 0, .int .i64 0, .slice none 0 0, .slice none 0 0, .slice none 0 0, .int .i64 0, .int .i64 0, .int .i64 0]) ?_ 3 _ rfl; (with_reducible repeat (first | refine blk_drewN ?_ _ | refine blk_drew ?_ | refine blk_alloc ?_ _)); refine blk_put (cs := #[.int .i64 0, .int .i64 0, .slice none 0 0, .slice none 0 0, .slice none 0 0, .int .i64 0, .int .i64 0, .int .i64 0]) ?_ 2 _ rfl; (with_reducible repeat (first | refine blk_drewN ?_ _ | refine blk_drew ?_ | refine blk_alloc ?_ _)); refine blk_put (cs := #[.int .i64 0, .int .i64 0, .slice none 0 0, .slice none 0 0, .slice none 0 0, .int .i64 0, .int .i64 0, .int .i64 0]) ?_ 1 _ rfl; (with_reducible repeat (first | refine blk_drewN ?_ _ | refine blk_drew ?_ | refine blk_alloc ?_ _)); refine blk_put (cs := #[.int .i64 0, .int .i64 0, .slice none 0 0, .slice none 0 0, .slice none 0 0, .int .i64 0, .int .i64 0, .int .i64 0]) ?_ 0 _ rfl; (with_reducible repeat (first | refine blk_drewN ?_ _ | refine blk_drew ?_ | refine blk_alloc ?_ _)); exact HS.out.z.r) Try.underlying33 rfl (by kernel_rfl)) rfl ?_)
                        all_goals (exact ⟨⟨0, none, 0, none, 0, none, 0, 0, _, rfl⟩, (by (with_reducible repeat (first | exact HS.out.z.b | refine below_set ?_ HS.out.z.gr_ | apply below_alloc | apply pw_below_drewN | apply below_drew1)); first | done | exact HS.out.z.b)⟩)
                      · rw [if_neg (fun h_ => h_.elim c8 c9)] at h
                        have q9 : (qb == 1) = false := beq_eq_false_iff_ne.2 c9
                        clear c8 c9
                        have H := Aside0.mk h
                        clear h
                        go_upto_region 32 with (fail)
                        clear q8 q9
                        refine spec_rv.cwp_seal (fun W_ => spec_rv.PK w W_ gr gn gs gh A0 c0 l0 p6 false #[.int .i64 0, .int .i64 ver, .slice Ad dd.length cd, .slice As ss.length cs, .slice none 0 0, .int .i64 0, .int .i64 0, .int .i64 0]) (by first | done | exact HS.out | exact spec_rv.PK.drewN HS.out _ | exact spec_rv.PK.drew HS.out | ((with_reducible repeat (first | exact HS.out | apply spec_rv.PK.drewN | apply spec_rv.PK.drew)); done)) ?_
                        clear HS y693 f694 y695 f696 y697 f698 y699 f700 y701 f702 y703 f704 y705 f706 y707 f708 y709 f710 y711 f712 y713 f714 y715 f716 y717 f718 y719 f720 y721 f722 y723 f724 y725 f726 y727 f728 y729 f730 y731 f732 y733 f734 y735 f736 y737 f738 y739 f740 y741 f742 y743 f744 y745 f746
                        rintro w22 hs_
                        have HS := Aside0.mk hs_
                        clear hs_
                        obtain ⟨y747, f748, y749, f750, y751, f752⟩ := spec_rv.c3 HS.out.z.s
                        obtain ⟨y753, f754, y755, f756, y757, f758, y759, f760, y761, f762, y763, f764, y765, f766, y767, f768⟩ := spec_rv.c8 HS.out.h
                        obtain ⟨y769, f770, y771, f772, y773, f774, y775, f776, y777, f778, y779, f780, y781, f782, y783, f784⟩ := spec_rv.c8 HS.out.z.n
                        obtain ⟨y785, f786, y787, f788, y789, f790, y791, f792, y793, f794, y795, f796, y797, f798, y799, f800⟩ := spec_rv.c8 HS.out.z.r
                        have h := H.out
                        clear H
                        by_cases cA : qb = 3
                        · rw [if_pos cA] at h
                          have qA : (qb == 3) = true := beq_iff_eq.2 cA
                          clear cA
                          have H := Aside0.mk h
                          clear h
                          go_upto_region 33 with (fail)
                          refine spec_rv.cwp_seal (fun W_ => spec_rv.PK w W_ gr gn gs gh A0 c0 l0 p6 false #[.int .i64 0, .int .i64 ver, .slice Ad dd.length cd, .slice As ss.length cs, .slice none 0 0, .int .i64 0, .int .i64 0, .int .i64 0]) (by first | done | exact HS.out | exact spec_rv.PK.drewN HS.out _ | exact spec_rv.PK.drew HS.out | ((with_reducible repeat (first | exact HS.out | apply spec_rv.PK.drewN | apply spec_rv.PK.drew)); done)) ?_
                          clear HS y747 f748 y749 f750 y751 f752 y753 f754 y755 f756 y757 f758 y759 f760 y761 f762 y763 f764 y765 f766 y767 f768 y769 f770 y771 f772 y773 f774 y775 f776 y777 f778 y779 f780 y781 f782 y783 f784 y785 f786 y787 f788 y789 f790 y791 f792 y793 f794 y795 f796 y797 f798 y799 f800
                          rintro w23 hs_
                          have HS := Aside0.mk hs_
                          clear hs_
                          obtain ⟨y801, f802, y803, f804, y805, f806⟩ := spec_rv.c3 HS.out.z.s
                          obtain ⟨y807, f808, y809, f810, y811, f812, y813, f814, y815, f816, y817, f818, y819, f820, y821, f822⟩ := spec_rv.c8 HS.out.h
                          obtain ⟨y823, f824, y825, f826, y827, f828, y829, f830, y831, f832, y833, f834, y835, f836, y837, f838⟩ := spec_rv.c8 HS.out.z.n
                          obtain ⟨y839, f840, y841, f842, y843, f844, y845, f846, y847, f848, y849, f850, y851, f852, y853, f854⟩ := spec_rv.c8 HS.out.z.r
                          go_wp2_with (first | (go_at_call 23; refine (spec_rv.retry_calls gs A0 c0 l0 p6 0 ver Ad cd dd.length As cs ss.length none 0 0 r1 r2 r3 r4 w _ (show spec_rv.PK w _ gr gn gs gh A0 c0 l0 p6 false #[.int .i64 0, .int .i64 ver, .slice Ad dd.length cd, .slice As ss.length cs, .slice none 0 0, .int .i64 0, .int .i64 0, .int .i64 0] from (by first | done | exact HS.out | exact spec_rv.PK.drewN HS.out _ | exact spec_rv.PK.drew HS.out | ((with_reducible repeat (first | exact HS.out | apply spec_rv.PK.drewN | apply spec_rv.PK.drew)); done))).z.b HS.out.z.gs_ (show spec_rv.At _ gs A0 c0 l0 p6 false from (show spec_rv.PK w _ gr gn gs gh A0 c0 l0 p6 false #[.int .i64 0, .int .i64 ver, .slice Ad dd.length cd, .slice As ss.length cs, .slice none 0 0, .int .i64 0, .int .i64 0, .int .i64 0] from (by first | done | exact HS.out | exact spec_rv.PK.drewN HS.out _ | exact spec_rv.PK.drew HS.out | ((with_reducible repeat (first | exact HS.out | apply spec_rv.PK.drewN | apply spec_rv.PK.drew)); done))).z.s) HI.out H.out).mono ?_; rintro e w24 ⟨⟨ver2, Ad2, cd2, As2, cs2, vA, vn, vc, nn, rfl⟩, hk_⟩; have HB3 := Aside0.mk ((show spec_rv.PK w _ gr gn gs gh A0 c0 l0 p6 false #[.int .i64 0, .int .i64 ver, .slice Ad dd.length cd, .slice As ss.length cs, .slice none 0 0, .int .i64 0, .int .i64 0, .int .i64 0] from (by first | done | exact HS.out | exact spec_rv.PK.drewN HS.out _ | exact spec_rv.PK.drew HS.out | ((with_reducible repeat (first | exact HS.out | apply spec_rv.PK.drewN | apply spec_rv.PK.drew)); done))).z.b.trans (hk_.below HS.out.z.gs_)); have HR3 := Aside0.mk (hk_.blk (show spec_rv.PK w _ gr gn gs gh A0 c0 l0 p6 false #[.int .i64 0, .int .i64 ver, .slice Ad dd.length cd, .slice As ss.length cs, .slice none 0 0, .int .i64 0, .int .i64 0, .int .i64 0] from (by first | done | exact HS.out | exact spec_rv.PK.drewN HS.out _ | exact spec_rv.PK.drew HS.out | ((with_reducible repeat (first | exact HS.out | apply spec_rv.PK.drewN | apply spec_rv.PK.drew)); done))).z.r HS.out.z.rs); have x0 : w24.cell? ⟨gr, 0, none⟩ = some (.int .i64 0) := (blk_cell HR3.out 0).trans rfl; have xf0 : _ := blk_frozen HR3.out 0; have x1 : w24.cell? ⟨gr, 1, none⟩ = some (.int .i64 0) := (blk_cell HR3.out 1).trans rfl; have xf1 : _ := blk_frozen HR3.out 1; have x2 : w24.cell? ⟨gr, 2, none⟩ = some (.slice none 0 0) := (blk_cell HR3.out 2).trans rfl; have xf2 : _ := blk_frozen HR3.out 2; have x3 : w24.cell? ⟨gr, 3, none⟩ = some (.slice none 0 0) := (blk_cell HR3.out 3).trans rfl; have xf3 : _ := blk_frozen HR3.out 3; have x4 : w24.cell? ⟨gr, 4, none⟩ = some (.slice none 0 0) := (blk_cell HR3.out 4).trans rfl; have xf4 : _ := blk_frozen HR3.out 4; have x5 : w24.cell? ⟨gr, 5, none⟩ = some (.int .i64 0) := (blk_cell HR3.out 5).trans rfl; have xf5 : _ := blk_frozen HR3.out 5; have x6 : w24.cell? ⟨gr, 6, none⟩ = some (.int .i64 0) := (blk_cell HR3.out 6).trans rfl; have xf6 : _ := blk_frozen HR3.out 6; have x7 : w24.cell? ⟨gr, 7, none⟩ = some (.int .i64 0) := (blk_cell HR3.out 7).trans rfl; have xf7 : _ := blk_frozen HR3.out 7))
                          try (go_region; all_goals go_wp2)
                          all_goals (refine bodyPost_ret (results_ctt rfl _ _ gr 33 #[.int .i64 r1, .int .i64 ver2, .slice Ad2 r2 cd2, .slice As2 r3 cs2, .slice vA vn vc, .int .i64 0, .int .i64 0, .int .i64 0] (0, 0) _ rfl (by (with_reducible repeat (first | refine blk_drewN ?_ _ | refine blk_drew ?_ | refine blk_alloc ?_ _)); refine blk_put (cs := #[.int .i64 r1, .int .i64 ver2, .slice Ad2 r2 cd2, .slice As2 r3 cs2, .slice vA vn vc, .int .i64 0, .int .i64 0, .int .i64 0]) ?_ 7 _ rfl; (with_reducible repeat (first | refine blk_drewN ?_ _ | refine blk_drew ?_ | refine blk_alloc ?_ _)); refine blk_put (cs := #[.int .i64 r1, .int .i64 ver2, .slice Ad2 r2 cd2, .slice As2 r3 cs2, .slice vA vn vc, .int .i64 0, .int .i64 0, .int .i64 0]) ?_ 6 _ rfl; (with_reducible repeat (first | refine blk_drewN ?_ _ | refine blk_drew ?_ | refine blk_alloc ?_ _)); refine blk_put (cs := #[.int .i64 r1, .int .i64 ver2, .slice Ad2 r2 cd2, .slice As2 r3 cs2, .slice vA vn vc, .int .i64 0, .int .i64 0, .int .i64 0]) ?_ 5 _ rfl; (with_reducible repeat (first | refine blk_drewN ?_ _ | refine blk_drew ?_ | refine blk_alloc ?_ _)); refine blk_put (cs := #[.int .i64 r1, .int .i64 ver2, .slice Ad2 r2 cd2, .slice As2 r3 cs2, .slice none 0 0, .int .i64 0, .int .i64 0, .int .i64 0]) ?_ 4 _ rfl; (with_reducible repeat (first | refine blk_drewN ?_ _ | refine blk_drew ?_ | refine blk_alloc ?_ _)); refine blk_put (cs := #[.int .i64 r1, .int .i64 ver2, .slice Ad2 r2 cd2, .slice none 0 0, .slice none 0 0, .int .i64 0, .int .i64 0, .int .i64 0]) ?_ 3 _ rfl; (with_reducible repeat (first | refine blk_drewN ?_ _ | refine blk_drew ?_ | refine blk_alloc ?_ _)); refine blk_put (cs := #[.int .i64 r1, .int .i64 ver2, .slice none 0 0, .slice none 0 0, .slice none 0 0, .int .i64 0, .int .i64 0, .int .i64 0]) ?_ 2 _ rfl; (with_reducible repeat (first | refine blk_drewN ?_ _ | refine blk_drew ?_ | refine blk_alloc ?_ _)); refine blk_put (cs := #[.int .i64 r1, .int .i64 0, .slice none 0 0, .slice none 0 0, .slice none 0 0, .int .i64 0, .int .i64 0, .int .i64 0]) ?_ 1 _ rfl; (with_reducible repeat (first | refine blk_drewN ?_ _ | refine blk_drew ?_ | refine blk_alloc ?_ _)); refine blk_put (cs := #[.int .i64 0, .int .i64 0, .slice none 0 0, .slice none 0 0, .slice none 0 0, .int .i64 0, .int .i64 0, .int .i64 0]) ?_ 0 _ rfl; (with_reducible repeat (first | refine blk_drewN ?_ _ | refine blk_drew ?_ | refine blk_alloc ?_ _)); exact HR3.out) Try.underlying33 rfl (by kernel_rfl)) rfl ?_)
                          all_goals (exact ⟨⟨ver2, Ad2, cd2, As2, cs2, vA, vn, vc, _, rfl⟩, (by (with_reducible repeat (first | exact HB3.out | refine below_set ?_ HS.out.z.gr_ | apply below_alloc | apply pw_below_drewN | apply below_drew1)); first | done | exact HB3.out)⟩)
                        · rw [if_neg cA] at h
                          have qA : (qb == 3) = false := beq_eq_false_iff_ne.2 cA
                          clear cA
                          have H := Aside0.mk h
                          clear h
                          go_upto_region 35 with (fail)
                          clear qA
                          refine spec_rv.cwp_seal (fun W_ => spec_rv.PK w W_ gr gn gs gh A0 c0 l0 p6 false #[.int .i64 2, .int .i64 ver, .slice Ad dd.length cd, .slice As ss.length cs, .slice none 0 0, .int .i64 0, .int .i64 0, .int .i64 0]) (by (with_reducible repeat (first | exact HS.out | apply spec_rv.PK.drewN | apply spec_rv.PK.drew)); refine spec_rv.PK.put (cs := #[.int .i64 0, .int .i64 ver, .slice Ad dd.length cd, .slice As ss.length cs, .slice none 0 0, .int .i64 0, .int .i64 0, .int .i64 0]) ?_ 0 _ rfl; first | done | exact HS.out | exact spec_rv.PK.drewN HS.out _ | exact spec_rv.PK.drew HS.out | ((with_reducible repeat (first | exact HS.out | apply spec_rv.PK.drewN | apply spec_rv.PK.drew)); done)) ?_
                          clear HS y747 f748 y749 f750 y751 f752 y753 f754 y755 f756 y757 f758 y759 f760 y761 f762 y763 f764 y765 f766 y767 f768 y769 f770 y771 f772 y773 f774 y775 f776 y777 f778 y779 f780 y781 f782 y783 f784 y785 f786 y787 f788 y789 f790 y791 f792 y793 f794 y795 f796 y797 f798 y799 f800
                          rintro w23 hs_
                          have HS := Aside0.mk hs_
                          clear hs_
                          obtain ⟨y801, f802, y803, f804, y805, f806⟩ := spec_rv.c3 HS.out.z.s
                          obtain ⟨y807, f808, y809, f810, y811, f812, y813, f814, y815, f816, y817, f818, y819, f820, y821, f822⟩ := spec_rv.c8 HS.out.h
                          obtain ⟨y823, f824, y825, f826, y827, f828, y829, f830, y831, f832, y833, f834, y835, f836, y837, f838⟩ := spec_rv.c8 HS.out.z.n
                          obtain ⟨y839, f840, y841, f842, y843, f844, y845, f846, y847, f848, y849, f850, y851, f852, y853, f854⟩ := spec_rv.c8 HS.out.z.r
                          have h := H.out
                          clear H
                          by_cases cB : qb = 0
                          · rw [if_pos cB] at h
                            have qB : (qb == 0) = true := beq_iff_eq.2 cB
                            clear cB
                            obtain ⟨⟨n3, p7, d7⟩, h_, h⟩ := Option.bind_eq_some_iff.1 h
                            have H7 := Aside0.mk h_
                            clear h_
                            try dsimp only at h
                            have H := Aside0.mk h
                            clear h
                            go_upto_region 37 with (fail)
                            refine spec_rv.cwp_seal (fun W_ => spec_rv.PK w W_ gr gn gs gh A0 c0 l0 p6 false #[.int .i64 1, .int .i64 ver, .slice Ad dd.length cd, .slice As ss.length cs, .slice none 0 0, .int .i64 0, .int .i64 0, .int .i64 0]) (by (with_reducible repeat (first | exact HS.out | apply spec_rv.PK.drewN | apply spec_rv.PK.drew)); refine spec_rv.PK.put (cs := #[.int .i64 2, .int .i64 ver, .slice Ad dd.length cd, .slice As ss.length cs, .slice none 0 0, .int .i64 0, .int .i64 0, .int .i64 0]) ?_ 0 _ rfl; first | done | exact HS.out | exact spec_rv.PK.drewN HS.out _ | exact spec_rv.PK.drew HS.out | ((with_reducible repeat (first | exact HS.out | apply spec_rv.PK.drewN | apply spec_rv.PK.drew)); done)) ?_
                            clear HS y801 f802 y803 f804 y805 f806 y807 f808 y809 f810 y811 f812 y813 f814 y815 f816 y817 f818 y819 f820 y821 f822 y823 f824 y825 f826 y827 f828 y829 f830 y831 f832 y833 f834 y835 f836 y837 f838 y839 f840 y841 f842 y843 f844 y845 f846 y847 f848 y849 f850 y851 f852 y853 f854
                            rintro w24 hs_
                            have HS := Aside0.mk hs_
                            clear hs_
                            obtain ⟨y855, f856, y857, f858, y859, f860⟩ := spec_rv.c3 HS.out.z.s
                            obtain ⟨y861, f862, y863, f864, y865, f866, y867, f868, y869, f870, y871, f872, y873, f874, y875, f876⟩ := spec_rv.c8 HS.out.h
                            obtain ⟨y877, f878, y879, f880, y881, f882, y883, f884, y885, f886, y887, f888, y889, f890, y891, f892⟩ := spec_rv.c8 HS.out.z.n
                            obtain ⟨y893, f894, y895, f896, y897, f898, y899, f900, y901, f902, y903, f904, y905, f906, y907, f908⟩ := spec_rv.c8 HS.out.z.r
                            clear qB
                            go_upto_region 38 with (first | (go_at_call 24; refine (spec_rv.num_calls k gs A0 c0 l0 p6 false n3 p7 d7 _ (show spec_rv.At _ gs A0 c0 l0 p6 false from (show spec_rv.PK w _ gr gn gs gh A0 c0 l0 p6 false #[.int .i64 1, .int .i64 ver, .slice Ad dd.length cd, .slice As ss.length cs, .slice none 0 0, .int .i64 0, .int .i64 0, .int .i64 0] from (by first | done | exact HS.out | exact spec_rv.PK.drewN HS.out _ | exact spec_rv.PK.drew HS.out | ((with_reducible repeat (first | exact HS.out | apply spec_rv.PK.drewN | apply spec_rv.PK.drew)); done))).z.s) (Kd.C_below HI.out.r (show spec_rv.PK w _ gr gn gs gh A0 c0 l0 p6 false #[.int .i64 1, .int .i64 ver, .slice Ad dd.length cd, .slice As ss.length cs, .slice none 0 0, .int .i64 0, .int .i64 0, .int .i64 0] from (by first | done | exact HS.out | exact spec_rv.PK.drewN HS.out _ | exact spec_rv.PK.drew HS.out | ((with_reducible repeat (first | exact HS.out | apply spec_rv.PK.drewN | apply spec_rv.PK.drew)); done))).z.b) HI.out.c H7.out).mono ?_; rintro e w25 ⟨rfl, hg_, hk_⟩; have hs_ := Aside0.mk (show spec_rv.PK w w25 gr gn gs gh A0 c0 l0 p7 d7 #[.int .i64 1, .int .i64 ver, .slice Ad dd.length cd, .slice As ss.length cs, .slice none 0 0, .int .i64 0, .int .i64 0, .int .i64 0] from spec_rv.PK.call (show spec_rv.PK w _ gr gn gs gh A0 c0 l0 p6 false #[.int .i64 1, .int .i64 ver, .slice Ad dd.length cd, .slice As ss.length cs, .slice none 0 0, .int .i64 0, .int .i64 0, .int .i64 0] from (by first | done | exact HS.out | exact spec_rv.PK.drewN HS.out _ | exact spec_rv.PK.drew HS.out | ((with_reducible repeat (first | exact HS.out | apply spec_rv.PK.drewN | apply spec_rv.PK.drew)); done))) hk_ hg_); clear HS; have HS := hs_; clear hs_ hg_ hk_; clear y855 f856 y857 f858 y859 f860 y861 f862 y863 f864 y865 f866 y867 f868 y869 f870 y871 f872 y873 f874 y875 f876 y877 f878 y879 f880 y881 f882 y883 f884 y885 f886 y887 f888 y889 f890 y891 f892 y893 f894 y895 f896 y897 f898 y899 f900 y901 f902 y903 f904 y905 f906 y907 f908; obtain ⟨y909, f910, y911, f912, y913, f914⟩ := spec_rv.c3 HS.out.z.s; obtain ⟨y915, f916, y917, f918, y919, f920, y921, f922, y923, f924, y925, f926, y927, f928, y929, f930⟩ := spec_rv.c8 HS.out.h; obtain ⟨y931, f932, y933, f934, y935, f936, y937, f938, y939, f940, y941, f942, y943, f944, y945, f946⟩ := spec_rv.c8 HS.out.z.n; obtain ⟨y947, f948, y949, f950, y951, f952, y953, f954, y955, f956, y957, f958, y959, f960, y961, f962⟩ := spec_rv.c8 HS.out.z.r))
                            refine spec_rv.cwp_seal (fun W_ => spec_rv.PK w W_ gr gn gs gh A0 c0 l0 p7 d7 #[.int .i64 1, .int .i64 ver, .slice Ad dd.length cd, .slice As ss.length cs, .slice none 0 0, .int .i64 0, .int .i64 0, .int .i64 0]) (by first | done | exact HS.out | exact spec_rv.PK.drewN HS.out _ | exact spec_rv.PK.drew HS.out | ((with_reducible repeat (first | exact HS.out | apply spec_rv.PK.drewN | apply spec_rv.PK.drew)); done)) ?_
                            clear HS y909 f910 y911 f912 y913 f914 y915 f916 y917 f918 y919 f920 y921 f922 y923 f924 y925 f926 y927 f928 y929 f930 y931 f932 y933 f934 y935 f936 y937 f938 y939 f940 y941 f942 y943 f944 y945 f946 y947 f948 y949 f950 y951 f952 y953 f954 y955 f956 y957 f958 y959 f960 y961 f962
                            rintro w26 hs_
                            have HS := Aside0.mk hs_
                            clear hs_
                            obtain ⟨y963, f964, y965, f966, y967, f968⟩ := spec_rv.c3 HS.out.z.s
                            obtain ⟨y969, f970, y971, f972, y973, f974, y975, f976, y977, f978, y979, f980, y981, f982, y983, f984⟩ := spec_rv.c8 HS.out.h
                            obtain ⟨y985, f986, y987, f988, y989, f990, y991, f992, y993, f994, y995, f996, y997, f998, y999, f1000⟩ := spec_rv.c8 HS.out.z.n
                            obtain ⟨y1001, f1002, y1003, f1004, y1005, f1006, y1007, f1008, y1009, f1010, y1011, f1012, y1013, f1014, y1015, f1016⟩ := spec_rv.c8 HS.out.z.r
                            have h := H.out
                            clear H
                            cases d7 with
                            | true =>
                              rw [if_pos rfl] at h
                              simp only [Option.some.injEq, Prod.mk.injEq] at h
                              obtain ⟨rfl, rfl, rfl, rfl⟩ := h
                              go_wp2
                              go_region_with (first | (go_at_call 22; refine (spec_rv.fault_t gs A0 c0 l0 p7 _ (show spec_rv.At _ gs A0 c0 l0 p7 true from (show spec_rv.PK w _ gr gn gs gh A0 c0 l0 p7 true #[.int .i64 1, .int .i64 ver, .slice Ad dd.length cd, .slice As ss.length cs, .slice none 0 0, .int .i64 0, .int .i64 0, .int .i64 0] from (by first | done | exact HS.out | exact spec_rv.PK.drewN HS.out _ | exact spec_rv.PK.drew HS.out | ((with_reducible repeat (first | exact HS.out | apply spec_rv.PK.drewN | apply spec_rv.PK.drew)); done))).z.s)).mono ?_; rintro e w2_ ⟨rfl, rfl⟩))
                              all_goals go_wp2
                              all_goals (refine bodyPost_ret (results_ctt rfl _ _ gr 33 #[.int .i64 0, .int .i64 0, .slice none 0 0, .slice none 0 0, .slice none 0 0, .int .i64 0, .int .i64 0, .int .i64 0] (0, 0) _ rfl (by (with_reducible repeat (first | refine blk_drewN ?_ _ | refine blk_drew ?_ | refine blk_alloc ?_ _)); refine blk_put (cs := #[.int .i64 0, .int .i64 0, .slice none 0 0, .slice none 0 0, .slice none 0 0, .int .i64 0, .int .i64 0, .int .i64 0]) ?_ 7 _ rfl; (with_reducible repeat (first | refine blk_drewN ?_ _ | refine blk_drew ?_ | refine blk_alloc ?_ _)); refine blk_put (cs := #[.int .i64 0, .int .i64 0, .slice none 0 0, .slice none 0 0, .slice none 0 0, .int .i64 0, .int .i64 0, .int .i64 0]) ?_ 6 _ rfl; (with_reducible repeat (first | refine blk_drewN ?_ _ | refine blk_drew ?_ | refine blk_alloc ?_ _)); refine blk_put (cs := #[.int .i64 0, .int .i64 0, .slice none 0 0, .slice none 0 0, .slice none 0 0, .int .i64 0, .int .i64 0, .int .i64 0]) ?_ 5 _ rfl; (with_reducible repeat (first | refine blk_drewN ?_ _ | refine blk_drew ?_ | refine blk_alloc ?_ _)); refine blk_put (cs := #[.int .i64 0, .int .i64 0, .slice none 0 0, .slice none 0 0, .slice none 0 0, .int .i64 0, .int .i64 0, .int .i64 0]) ?_ 4 _ rfl; (with_reducible repeat (first | refine blk_drewN ?_ _ | refine blk_drew ?_ | refine blk_alloc ?_ _)); refine blk_put (cs := #[.int .i64 0, .int .i64 0, .slice none 0 0, .slice none 0 0, .slice none 0 0, .int .i64 0, .int .i64 0, .int .i64 0]) ?_ 3 _ rfl; (with_reducible repeat (first | refine blk_drewN ?_ _ | refine blk_drew ?_ | refine blk_alloc ?_ _)); refine blk_put (cs := #[.int .i64 0, .int .i64 0, .slice none 0 0, .slice none 0 0, .slice none 0 0, .int .i64 0, .int .i64 0, .int .i64 0]) ?_ 2 _ rfl; (with_reducible repeat (first | refine blk_drewN ?_ _ | refine blk_drew ?_ | refine blk_alloc ?_ _)); refine blk_put (cs := #[.int .i64 0, .int .i64 0, .slice none 0 0, .slice none 0 0, .slice none 0 0, .int .i64 0, .int .i64 0, .int .i64 0]) ?_ 1 _ rfl; (with_reducible repeat (first | refine blk_drewN ?_ _ | refine blk_drew ?_ | refine blk_alloc ?_ _)); refine blk_put (cs := #[.int .i64 0, .int .i64 0, .slice none 0 0, .slice none 0 0, .slice none 0 0, .int .i64 0, .int .i64 0, .int .i64 0]) ?_ 0 _ rfl; (with_reducible repeat (first | refine blk_drewN ?_ _ | refine blk_drew ?_ | refine blk_alloc ?_ _)); exact HS.out.z.r) Try.underlying33 rfl (by kernel_rfl)) rfl ?_)
                              all_goals (exact ⟨⟨0, none, 0, none, 0, none, 0, 0, _, rfl⟩, (by (with_reducible repeat (first | exact HS.out.z.b | refine below_set ?_ HS.out.z.gr_ | apply below_alloc | apply pw_below_drewN | apply below_drew1)); first | done | exact HS.out.z.b)⟩)
                            | false =>
                              rw [if_neg (by simp)] at h
                              by_cases cC : 64 < n3
                              · rw [if_pos cC] at h
                                have qcC : decide (64 < n3) = true := decide_eq_true cC
                                clear cC
                                simp only [Option.some.injEq, Prod.mk.injEq] at h
                                obtain ⟨rfl, rfl, rfl, rfl⟩ := h
                                go_wp2
                                go_region_with (first | (go_at_call 22; refine (spec_rv.fault_f gs A0 c0 l0 p7 _ (show spec_rv.At _ gs A0 c0 l0 p7 false from (show spec_rv.PK w _ gr gn gs gh A0 c0 l0 p7 false #[.int .i64 1, .int .i64 ver, .slice Ad dd.length cd, .slice As ss.length cs, .slice none 0 0, .int .i64 0, .int .i64 0, .int .i64 0] from (by first | done | exact HS.out | exact spec_rv.PK.drewN HS.out _ | exact spec_rv.PK.drew HS.out | ((with_reducible repeat (first | exact HS.out | apply spec_rv.PK.drewN | apply spec_rv.PK.drew)); done))).z.s)).mono ?_; rintro e w2_ ⟨rfl, rfl⟩))
                                all_goals go_wp2
                                all_goals (refine bodyPost_ret (results_ctt rfl _ _ gr 33 #[.int .i64 0, .int .i64 0, .slice none 0 0, .slice none 0 0, .slice none 0 0, .int .i64 0, .int .i64 0, .int .i64 0] (0, 0) _ rfl (by (with_reducible repeat (first | refine blk_drewN ?_ _ | refine blk_drew ?_ | refine blk_alloc ?_ _)); refine blk_put (cs := #[.int .i64 0, .int .i64 0, .slice none 0 0, .slice none 0 0, .slice none 0 0, .int .i64 0, .int .i64 0, .int .i64 0]) ?_ 7 _ rfl; (with_reducible repeat (first | refine blk_drewN ?_ _ | refine blk_drew ?_ | refine blk_alloc ?_ _)); refine blk_put (cs := #[.int .i64 0, .int .i64 0, .slice none 0 0, .slice none 0 0, .slice none 0 0, .int .i64 0, .int .i64 0, .int .i64 0]) ?_ 6 _ rfl; (with_reducible repeat (first | refine blk_drewN ?_ _ | refine blk_drew ?_ | refine blk_alloc ?_ _)); refine blk_put (cs := #[.int .i64 0, .int .i64 0, .slice none 0 0, .slice none 0 0, .slice none 0 0, .int .i64 0, .int .i64 0, .int .i64 0]) ?_ 5 _ rfl; (with_reducible repeat (first | refine blk_drewN ?_ _ | refine blk_drew ?_ | refine blk_alloc ?_ _)); refine blk_put (cs := #[.int .i64 0, .int .i64 0, .slice none 0 0, .slice none 0 0, .slice none 0 0, .int .i64 0, .int .i64 0, .int .i64 0]) ?_ 4 _ rfl; (with_reducible repeat (first | refine blk_drewN ?_ _ | refine blk_drew ?_ | refine blk_alloc ?_ _)); refine blk_put (cs := #[.int .i64 0, .int .i64 0, .slice none 0 0, .slice none 0 0, .slice none 0 0, .int .i64 0, .int .i64 0, .int .i64 0]) ?_ 3 _ rfl; (with_reducible repeat (first | refine blk_drewN ?_ _ | refine blk_drew ?_ | refine blk_alloc ?_ _)); refine blk_put (cs := #[.int .i64 0, .int .i64 0, .slice none 0 0, .slice none 0 0, .slice none 0 0, .int .i64 0, .int .i64 0, .int .i64 0]) ?_ 2 _ rfl; (with_reducible repeat (first | refine blk_drewN ?_ _ | refine blk_drew ?_ | refine blk_alloc ?_ _)); refine blk_put (cs := #[.int .i64 0, .int .i64 0, .slice none 0 0, .slice none 0 0, .slice none 0 0, .int .i64 0, .int .i64 0, .int .i64 0]) ?_ 1 _ rfl; (with_reducible repeat (first | refine blk_drewN ?_ _ | refine blk_drew ?_ | refine blk_alloc ?_ _)); refine blk_put (cs := #[.int .i64 0, .int .i64 0, .slice none 0 0, .slice none 0 0, .slice none 0 0, .int .i64 0, .int .i64 0, .int .i64 0]) ?_ 0 _ rfl; (with_reducible repeat (first | refine blk_drewN ?_ _ | refine blk_drew ?_ | refine blk_alloc ?_ _)); exact HS.out.z.r) Try.underlying33 rfl (by kernel_rfl)) rfl ?_)
                                all_goals (exact ⟨⟨0, none, 0, none, 0, none, 0, 0, _, rfl⟩, (by (with_reducible repeat (first | exact HS.out.z.b | refine below_set ?_ HS.out.z.gr_ | apply below_alloc | apply pw_below_drewN | apply below_drew1)); first | done | exact HS.out.z.b)⟩)
                              · rw [if_neg cC] at h
                                have qcC : decide (64 < n3) = false := decide_eq_false cC
                                clear cC
                                obtain ⟨⟨tt, p8, d8⟩, h_, h⟩ := Option.bind_eq_some_iff.1 h
                                have H8 := Aside0.mk h_
                                clear h_
                                try dsimp only at h
                                have H := Aside0.mk h
                                clear h
                                go_upto_region 41 with (first | (go_at_call 21; refine (spec_rv.tk_calls gs A0 c0 l0 p7 false n3 p8 d8 tt tt.length w _ (show spec_rv.PK w _ gr gn gs gh A0 c0 l0 p7 false #[.int .i64 1, .int .i64 ver, .slice Ad dd.length cd, .slice As ss.length cs, .slice none 0 0, .int .i64 0, .int .i64 0, .int .i64 0] from (by first | done | exact HS.out | exact spec_rv.PK.drewN HS.out _ | exact spec_rv.PK.drew HS.out | ((with_reducible repeat (first | exact HS.out | apply spec_rv.PK.drewN | apply spec_rv.PK.drew)); done))).z.b HS.out.z.gs_ (show spec_rv.At _ gs A0 c0 l0 p7 false from (show spec_rv.PK w _ gr gn gs gh A0 c0 l0 p7 false #[.int .i64 1, .int .i64 ver, .slice Ad dd.length cd, .slice As ss.length cs, .slice none 0 0, .int .i64 0, .int .i64 0, .int .i64 0] from (by first | done | exact HS.out | exact spec_rv.PK.drewN HS.out _ | exact spec_rv.PK.drew HS.out | ((with_reducible repeat (first | exact HS.out | apply spec_rv.PK.drewN | apply spec_rv.PK.drew)); done))).z.s) HI.out H8.out rfl).mono ?_; rintro e w27 ⟨At, ct, rfl, hc_, hcl_, hg_, hk_⟩; clear hc_ hcl_; have hs_ := Aside0.mk (show spec_rv.PK w w27 gr gn gs gh A0 c0 l0 p8 d8 #[.int .i64 1, .int .i64 ver, .slice Ad dd.length cd, .slice As ss.length cs, .slice none 0 0, .int .i64 0, .int .i64 0, .int .i64 0] from spec_rv.PK.call (show spec_rv.PK w _ gr gn gs gh A0 c0 l0 p7 false #[.int .i64 1, .int .i64 ver, .slice Ad dd.length cd, .slice As ss.length cs, .slice none 0 0, .int .i64 0, .int .i64 0, .int .i64 0] from (by first | done | exact HS.out | exact spec_rv.PK.drewN HS.out _ | exact spec_rv.PK.drew HS.out | ((with_reducible repeat (first | exact HS.out | apply spec_rv.PK.drewN | apply spec_rv.PK.drew)); done))) hk_ hg_); clear HS; have HS := hs_; clear hs_ hg_ hk_; clear y963 f964 y965 f966 y967 f968 y969 f970 y971 f972 y973 f974 y975 f976 y977 f978 y979 f980 y981 f982 y983 f984 y985 f986 y987 f988 y989 f990 y991 f992 y993 f994 y995 f996 y997 f998 y999 f1000 y1001 f1002 y1003 f1004 y1005 f1006 y1007 f1008 y1009 f1010 y1011 f1012 y1013 f1014 y1015 f1016; obtain ⟨y1017, f1018, y1019, f1020, y1021, f1022⟩ := spec_rv.c3 HS.out.z.s; obtain ⟨y1023, f1024, y1025, f1026, y1027, f1028, y1029, f1030, y1031, f1032, y1033, f1034, y1035, f1036, y1037, f1038⟩ := spec_rv.c8 HS.out.h; obtain ⟨y1039, f1040, y1041, f1042, y1043, f1044, y1045, f1046, y1047, f1048, y1049, f1050, y1051, f1052, y1053, f1054⟩ := spec_rv.c8 HS.out.z.n; obtain ⟨y1055, f1056, y1057, f1058, y1059, f1060, y1061, f1062, y1063, f1064, y1065, f1066, y1067, f1068, y1069, f1070⟩ := spec_rv.c8 HS.out.z.r))
                                refine spec_rv.cwp_seal (fun W_ => spec_rv.PK w W_ gr gn gs gh A0 c0 l0 p8 d8 #[.int .i64 1, .int .i64 ver, .slice Ad dd.length cd, .slice As ss.length cs, .slice At tt.length ct, .int .i64 0, .int .i64 0, .int .i64 0]) (by (with_reducible repeat (first | exact HS.out | apply spec_rv.PK.drewN | apply spec_rv.PK.drew)); refine spec_rv.PK.put (cs := #[.int .i64 1, .int .i64 ver, .slice Ad dd.length cd, .slice As ss.length cs, .slice none 0 0, .int .i64 0, .int .i64 0, .int .i64 0]) ?_ 4 _ rfl; first | done | exact HS.out | exact spec_rv.PK.drewN HS.out _ | exact spec_rv.PK.drew HS.out | ((with_reducible repeat (first | exact HS.out | apply spec_rv.PK.drewN | apply spec_rv.PK.drew)); done)) ?_
                                clear HS y1017 f1018 y1019 f1020 y1021 f1022 y1023 f1024 y1025 f1026 y1027 f1028 y1029 f1030 y1031 f1032 y1033 f1034 y1035 f1036 y1037 f1038 y1039 f1040 y1041 f1042 y1043 f1044 y1045 f1046 y1047 f1048 y1049 f1050 y1051 f1052 y1053 f1054 y1055 f1056 y1057 f1058 y1059 f1060 y1061 f1062 y1063 f1064 y1065 f1066 y1067 f1068 y1069 f1070
                                rintro w28 hs_
                                have HS := Aside0.mk hs_
                                clear hs_
                                obtain ⟨y1071, f1072, y1073, f1074, y1075, f1076⟩ := spec_rv.c3 HS.out.z.s
                                obtain ⟨y1077, f1078, y1079, f1080, y1081, f1082, y1083, f1084, y1085, f1086, y1087, f1088, y1089, f1090, y1091, f1092⟩ := spec_rv.c8 HS.out.h
                                obtain ⟨y1093, f1094, y1095, f1096, y1097, f1098, y1099, f1100, y1101, f1102, y1103, f1104, y1105, f1106, y1107, f1108⟩ := spec_rv.c8 HS.out.z.n
                                obtain ⟨y1109, f1110, y1111, f1112, y1113, f1114, y1115, f1116, y1117, f1118, y1119, f1120, y1121, f1122, y1123, f1124⟩ := spec_rv.c8 HS.out.z.r
                                have h := H.out
                                clear H
                                unfold spec_rv.tail at h
                                obtain ⟨⟨n4, p9, d9⟩, h_, h⟩ := Option.bind_eq_some_iff.1 h
                                have H9 := Aside0.mk h_
                                clear h_
                                try dsimp only at h
                                have H := Aside0.mk h
                                clear h
                                go_upto_region 42 with (first | (go_at_call 24; refine (spec_rv.num_calls k gs A0 c0 l0 p8 d8 n4 p9 d9 _ (show spec_rv.At _ gs A0 c0 l0 p8 d8 from (show spec_rv.PK w _ gr gn gs gh A0 c0 l0 p8 d8 #[.int .i64 1, .int .i64 ver, .slice Ad dd.length cd, .slice As ss.length cs, .slice At tt.length ct, .int .i64 0, .int .i64 0, .int .i64 0] from (by first | done | exact HS.out | exact spec_rv.PK.drewN HS.out _ | exact spec_rv.PK.drew HS.out | ((with_reducible repeat (first | exact HS.out | apply spec_rv.PK.drewN | apply spec_rv.PK.drew)); done))).z.s) (Kd.C_below HI.out.r (show spec_rv.PK w _ gr gn gs gh A0 c0 l0 p8 d8 #[.int .i64 1, .int .i64 ver, .slice Ad dd.length cd, .slice As ss.length cs, .slice At tt.length ct, .int .i64 0, .int .i64 0, .int .i64 0] from (by first | done | exact HS.out | exact spec_rv.PK.drewN HS.out _ | exact spec_rv.PK.drew HS.out | ((with_reducible repeat (first | exact HS.out | apply spec_rv.PK.drewN | apply spec_rv.PK.drew)); done))).z.b) HI.out.c H9.out).mono ?_; rintro e w29 ⟨rfl, hg_, hk_⟩; have hs_ := Aside0.mk (show spec_rv.PK w w29 gr gn gs gh A0 c0 l0 p9 d9 #[.int .i64 1, .int .i64 ver, .slice Ad dd.length cd, .slice As ss.length cs, .slice At tt.length ct, .int .i64 0, .int .i64 0, .int .i64 0] from spec_rv.PK.call (show spec_rv.PK w _ gr gn gs gh A0 c0 l0 p8 d8 #[.int .i64 1, .int .i64 ver, .slice Ad dd.length cd, .slice As ss.length cs, .slice At tt.length ct, .int .i64 0, .int .i64 0, .int .i64 0] from (by first | done | exact HS.out | exact spec_rv.PK.drewN HS.out _ | exact spec_rv.PK.drew HS.out | ((with_reducible repeat (first | exact HS.out | apply spec_rv.PK.drewN | apply spec_rv.PK.drew)); done))) hk_ hg_); clear HS; have HS := hs_; clear hs_ hg_ hk_; clear y1071 f1072 y1073 f1074 y1075 f1076 y1077 f1078 y1079 f1080 y1081 f1082 y1083 f1084 y1085 f1086 y1087 f1088 y1089 f1090 y1091 f1092 y1093 f1094 y1095 f1096 y1097 f1098 y1099 f1100 y1101 f1102 y1103 f1104 y1105 f1106 y1107 f1108 y1109 f1110 y1111 f1112 y1113 f1114 y1115 f1116 y1117 f1118 y1119 f1120 y1121 f1122 y1123 f1124; obtain ⟨y1125, f1126, y1127, f1128, y1129, f1130⟩ := spec_rv.c3 HS.out.z.s; obtain ⟨y1131, f1132, y1133, f1134, y1135, f1136, y1137, f1138, y1139, f1140, y1141, f1142, y1143, f1144, y1145, f1146⟩ := spec_rv.c8 HS.out.h; obtain ⟨y1147, f1148, y1149, f1150, y1151, f1152, y1153, f1154, y1155, f1156, y1157, f1158, y1159, f1160, y1161, f1162⟩ := spec_rv.c8 HS.out.z.n; obtain ⟨y1163, f1164, y1165, f1166, y1167, f1168, y1169, f1170, y1171, f1172, y1173, f1174, y1175, f1176, y1177, f1178⟩ := spec_rv.c8 HS.out.z.r))
                                refine spec_rv.cwp_seal (fun W_ => spec_rv.PK w W_ gr gn gs gh A0 c0 l0 p9 d9 #[.int .i64 1, .int .i64 ver, .slice Ad dd.length cd, .slice As ss.length cs, .slice At tt.length ct, .int .i64 0, .int .i64 0, .int .i64 0]) (by first | done | exact HS.out | exact spec_rv.PK.drewN HS.out _ | exact spec_rv.PK.drew HS.out | ((with_reducible repeat (first | exact HS.out | apply spec_rv.PK.drewN | apply spec_rv.PK.drew)); done)) ?_
                                clear HS y1125 f1126 y1127 f1128 y1129 f1130 y1131 f1132 y1133 f1134 y1135 f1136 y1137 f1138 y1139 f1140 y1141 f1142 y1143 f1144 y1145 f1146 y1147 f1148 y1149 f1150 y1151 f1152 y1153 f1154 y1155 f1156 y1157 f1158 y1159 f1160 y1161 f1162 y1163 f1164 y1165 f1166 y1167 f1168 y1169 f1170 y1171 f1172 y1173 f1174 y1175 f1176 y1177 f1178
                                rintro w30 hs_
                                have HS := Aside0.mk hs_
                                clear hs_
                                obtain ⟨y1179, f1180, y1181, f1182, y1183, f1184⟩ := spec_rv.c3 HS.out.z.s
                                obtain ⟨y1185, f1186, y1187, f1188, y1189, f1190, y1191, f1192, y1193, f1194, y1195, f1196, y1197, f1198, y1199, f1200⟩ := spec_rv.c8 HS.out.h
                                obtain ⟨y1201, f1202, y1203, f1204, y1205, f1206, y1207, f1208, y1209, f1210, y1211, f1212, y1213, f1214, y1215, f1216⟩ := spec_rv.c8 HS.out.z.n
                                obtain ⟨y1217, f1218, y1219, f1220, y1221, f1222, y1223, f1224, y1225, f1226, y1227, f1228, y1229, f1230, y1231, f1232⟩ := spec_rv.c8 HS.out.z.r
                                have h := H.out
                                clear H
                                cases d9 with
                                | true =>
                                  rw [if_pos rfl] at h
                                  simp only [Option.some.injEq, Prod.mk.injEq] at h
                                  obtain ⟨rfl, rfl, rfl, rfl⟩ := h
                                  go_wp2
                                  go_region_with (first | (go_at_call 22; refine (spec_rv.fault_t gs A0 c0 l0 p9 _ (show spec_rv.At _ gs A0 c0 l0 p9 true from (show spec_rv.PK w _ gr gn gs gh A0 c0 l0 p9 true #[.int .i64 1, .int .i64 ver, .slice Ad dd.length cd, .slice As ss.length cs, .slice At tt.length ct, .int .i64 0, .int .i64 0, .int .i64 0] from (by first | done | exact HS.out | exact spec_rv.PK.drewN HS.out _ | exact spec_rv.PK.drew HS.out | ((with_reducible repeat (first | exact HS.out | apply spec_rv.PK.drewN | apply spec_rv.PK.drew)); done))).z.s)).mono ?_; rintro e w2_ ⟨rfl, rfl⟩))
                                  all_goals go_wp2
                                  all_goals (refine bodyPost_ret (results_ctt rfl _ _ gr 33 #[.int .i64 0, .int .i64 0, .slice none 0 0, .slice none 0 0, .slice none 0 0, .int .i64 0, .int .i64 0, .int .i64 0] (0, 0) _ rfl (by (with_reducible repeat (first | refine blk_drewN ?_ _ | refine blk_drew ?_ | refine blk_alloc ?_ _)); refine blk_put (cs := #[.int .i64 0, .int .i64 0, .slice none 0 0, .slice none 0 0, .slice none 0 0, .int .i64 0, .int .i64 0, .int .i64 0]) ?_ 7 _ rfl; (with_reducible repeat (first | refine blk_drewN ?_ _ | refine blk_drew ?_ | refine blk_alloc ?_ _)); refine blk_put (cs := #[.int .i64 0, .int .i64 0, .slice none 0 0, .slice none 0 0, .slice none 0 0, .int .i64 0, .int .i64 0, .int .i64 0]) ?_ 6 _ rfl; (with_reducible repeat (first | refine blk_drewN ?_ _ | refine blk_drew ?_ | refine blk_alloc ?_ _)); refine blk_put (cs := #[.int .i64 0, .int .i64 0, .slice none 0 0, .slice none 0 0, .slice none 0 0, .int .i64 0, .int .i64 0, .int .i64 0]) ?_ 5 _ rfl; (with_reducible repeat (first | refine blk_drewN ?_ _ | refine blk_drew ?_ | refine blk_alloc ?_ _)); refine blk_put (cs := #[.int .i64 0, .int .i64 0, .slice none 0 0, .slice none 0 0, .slice none 0 0, .int .i64 0, .int .i64 0, .int .i64 0]) ?_ 4 _ rfl; (with_reducible repeat (first | refine blk_drewN ?_ _ | refine blk_drew ?_ | refine blk_alloc ?_ _)); refine blk_put (cs := #[.int .i64 0, .int .i64 0, .slice none 0 0, .slice none 0 0, .slice none 0 0, .int .i64 0, .int .i64 0, .int .i64 0]) ?_ 3 _ rfl; (with_reducible repeat (first | refine blk_drewN ?_ _ | refine blk_drew ?_ | refine blk_alloc ?_ _)); refine blk_put (cs := #[.int .i64 0, .int .i64 0, .slice none 0 0, .slice none 0 0, .slice none 0 0, .int .i64 0, .int .i64 0, .int .i64 0]) ?_ 2 _ rfl; (with_reducible repeat (first | refine blk_drewN ?_ _ | refine blk_drew ?_ | refine blk_alloc ?_ _)); refine blk_put (cs := #[.int .i64 0, .int .i64 0, .slice none 0 0, .slice none 0 0, .slice none 0 0, .int .i64 0, .int .i64 0, .int .i64 0]) ?_ 1 _ rfl; (with_reducible repeat (first | refine blk_drewN ?_ _ | refine blk_drew ?_ | refine blk_alloc ?_ _)); refine blk_put (cs := #[.int .i64 0, .int .i64 0, .slice none 0 0, .slice none 0 0, .slice none 0 0, .int .i64 0, .int .i64 0, .int .i64 0]) ?_ 0 _ rfl; (with_reducible repeat (first | refine blk_drewN ?_ _ | refine blk_drew ?_ | refine blk_alloc ?_ _)); exact HS.out.z.r) Try.underlying33 rfl (by kernel_rfl)) rfl ?_)
                                  all_goals (exact ⟨⟨0, none, 0, none, 0, none, 0, 0, _, rfl⟩, (by (with_reducible repeat (first | exact HS.out.z.b | refine below_set ?_ HS.out.z.gr_ | apply below_alloc | apply pw_below_drewN | apply below_drew1)); first | done | exact HS.out.z.b)⟩)
                                | false =>
                                  rw [if_neg (by simp)] at h
                                  by_cases cD : n4 < 12
                                  · rw [if_pos (.inl cD)] at h
                                    have qD : decide (n4 < 12) = true := decide_eq_true cD
                                    clear cD
                                    simp only [Option.some.injEq, Prod.mk.injEq] at h
                                    obtain ⟨rfl, rfl, rfl, rfl⟩ := h
                                    go_wp2
                                    go_region_with (first | (go_at_call 22; refine (spec_rv.fault_f gs A0 c0 l0 p9 _ (show spec_rv.At _ gs A0 c0 l0 p9 false from (show spec_rv.PK w _ gr gn gs gh A0 c0 l0 p9 false #[.int .i64 1, .int .i64 ver, .slice Ad dd.length cd, .slice As ss.length cs, .slice At tt.length ct, .int .i64 0, .int .i64 0, .int .i64 0] from (by first | done | exact HS.out | exact spec_rv.PK.drewN HS.out _ | exact spec_rv.PK.drew HS.out | ((with_reducible repeat (first | exact HS.out | apply spec_rv.PK.drewN | apply spec_rv.PK.drew)); done))).z.s)).mono ?_; rintro e w2_ ⟨rfl, rfl⟩))
                                    all_goals go_wp2
                                    all_goals (refine bodyPost_ret (results_ctt rfl _ _ gr 33 #[.int .i64 0, .int .i64 0, .slice none 0 0, .slice none 0 0, .slice none 0 0, .int .i64 0, .int .i64 0, .int .i64 0] (0, 0) _ rfl (by (with_reducible repeat (first | refine blk_drewN ?_ _ | refine blk_drew ?_ | refine blk_alloc ?_ _)); refine blk_put (cs := #[.int .i64 0, .int .i64 0, .slice none 0 0, .slice none 0 0, .slice none 0 0, .int .i64 0, .int .i64 0, .int .i64 0]) ?_ 7 _ rfl; (with_reducible repeat (first | refine blk_drewN ?_ _ | refine blk_drew ?_ | refine blk_alloc ?_ _)); refine blk_put (cs := #[.int .i64 0, .int .i64 0, .slice none 0 0, .slice none 0 0, .slice none 0 0, .int .i64 0, .int .i64 0, .int .i64 0]) ?_ 6 _ rfl; (with_reducible repeat (first | refine blk_drewN ?_ _ | refine blk_drew ?_ | refine blk_alloc ?_ _)); refine blk_put (cs := #[.int .i64 0, .int .i64 0, .slice none 0 0, .slice none 0 0, .slice none 0 0, .int .i64 0, .int .i64 0, .int .i64 0]) ?_ 5 _ rfl; (with_reducible repeat (first | refine blk_drewN ?_ _ | refine blk_drew ?_ | refine blk_alloc ?_ _)); refine blk_put (cs := #[.int .i64 0, .int .i64 0, .slice none 0 0, .slice none 0 0, .slice none 0 0, .int .i64 0, .int .i64 0, .int .i64 0]) ?_ 4 _ rfl; (with_reducible repeat (first | refine blk_drewN ?_ _ | refine blk_drew ?_ | refine blk_alloc ?_ _)); refine blk_put (cs := #[.int .i64 0, .int .i64 0, .slice none 0 0, .slice none 0 0, .slice none 0 0, .int .i64 0, .int .i64 0, .int .i64 0]) ?_ 3 _ rfl; (with_reducible repeat (first | refine blk_drewN ?_ _ | refine blk_drew ?_ | refine blk_alloc ?_ _)); refine blk_put (cs := #[.int .i64 0, .int .i64 0, .slice none 0 0, .slice none 0 0, .slice none 0 0, .int .i64 0, .int .i64 0, .int .i64 0]) ?_ 2 _ rfl; (with_reducible repeat (first | refine blk_drewN ?_ _ | refine blk_drew ?_ | refine blk_alloc ?_ _)); refine blk_put (cs := #[.int .i64 0, .int .i64 0, .slice none 0 0, .slice none 0 0, .slice none 0 0, .int .i64 0, .int .i64 0, .int .i64 0]) ?_ 1 _ rfl; (with_reducible repeat (first | refine blk_drewN ?_ _ | refine blk_drew ?_ | refine blk_alloc ?_ _)); refine blk_put (cs := #[.int .i64 0, .int .i64 0, .slice none 0 0, .slice none 0 0, .slice none 0 0, .int .i64 0, .int .i64 0, .int .i64 0]) ?_ 0 _ rfl; (with_reducible repeat (first | refine blk_drewN ?_ _ | refine blk_drew ?_ | refine blk_alloc ?_ _)); exact HS.out.z.r) Try.underlying33 rfl (by kernel_rfl)) rfl ?_)
                                    all_goals (exact ⟨⟨0, none, 0, none, 0, none, 0, 0, _, rfl⟩, (by (with_reducible repeat (first | exact HS.out.z.b | refine below_set ?_ HS.out.z.gr_ | apply below_alloc | apply pw_below_drewN | apply below_drew1)); first | done | exact HS.out.z.b)⟩)
                                  · have qD : decide (n4 < 12) = false := decide_eq_false cD
                                    by_cases cE : 1508 < n4
                                    · rw [if_pos (.inr cE)] at h
                                      have qE : decide (1508 < n4) = true := decide_eq_true cE
                                      clear cD cE
                                      simp only [Option.some.injEq, Prod.mk.injEq] at h
                                      obtain ⟨rfl, rfl, rfl, rfl⟩ := h
                                      go_wp2
                                      go_region_with (first | (go_at_call 22; refine (spec_rv.fault_f gs A0 c0 l0 p9 _ (show spec_rv.At _ gs A0 c0 l0 p9 false from (show spec_rv.PK w _ gr gn gs gh A0 c0 l0 p9 false #[.int .i64 1, .int .i64 ver, .slice Ad dd.length cd, .slice As ss.length cs, .slice At tt.length ct, .int .i64 0, .int .i64 0, .int .i64 0] from (by first | done | exact HS.out | exact spec_rv.PK.drewN HS.out _ | exact spec_rv.PK.drew HS.out | ((with_reducible repeat (first | exact HS.out | apply spec_rv.PK.drewN | apply spec_rv.PK.drew)); done))).z.s)).mono ?_; rintro e w2_ ⟨rfl, rfl⟩))
                                      all_goals go_wp2
                                      all_goals (refine bodyPost_ret (results_ctt rfl _ _ gr 33 #[.int .i64 0, .int .i64 0, .slice none 0 0, .slice none 0 0, .slice none 0 0, .int .i64 0, .int .i64 0, .int .i64 0] (0, 0) _ rfl (by (with_reducible repeat (first | refine blk_drewN ?_ _ | refine blk_drew ?_ | refine blk_alloc ?_ _)); refine blk_put (cs := #[.int .i64 0, .int .i64 0, .slice none 0 0, .slice none 0 0, .slice none 0 0, .int .i64 0, .int .i64 0, .int .i64 0]) ?_ 7 _ rfl; (with_reducible repeat (first | refine blk_drewN ?_ _ | refine blk_drew ?_ | refine blk_alloc ?_ _)); refine blk_put (cs := #[.int .i64 0, .int .i64 0, .slice none 0 0, .slice none 0 0, .slice none 0 0, .int .i64 0, .int .i64 0, .int .i64 0]) ?_ 6 _ rfl; (with_reducible repeat (first | refine blk_drewN ?_ _ | refine blk_drew ?_ | refine blk_alloc ?_ _)); refine blk_put (cs := #[.int .i64 0, .int .i64 0, .slice none 0 0, .slice none 0 0, .slice none 0 0, .int .i64 0, .int .i64 0, .int .i64 0]) ?_ 5 _ rfl; (with_reducible repeat (first | refine blk_drewN ?_ _ | refine blk_drew ?_ | refine blk_alloc ?_ _)); refine blk_put (cs := #[.int .i64 0, .int .i64 0, .slice none 0 0, .slice none 0 0, .slice none 0 0, .int .i64 0, .int .i64 0, .int .i64 0]) ?_ 4 _ rfl; (with_reducible repeat (first | refine blk_drewN ?_ _ | refine blk_drew ?_ | refine blk_alloc ?_ _)); refine blk_put (cs := #[.int .i64 0, .int .i64 0, .slice none 0 0, .slice none 0 0, .slice none 0 0, .int .i64 0, .int .i64 0, .int .i64 0]) ?_ 3 _ rfl; (with_reducible repeat (first | refine blk_drewN ?_ _ | refine blk_drew ?_ | refine blk_alloc ?_ _)); refine blk_put (cs := #[.int .i64 0, .int .i64 0, .slice none 0 0, .slice none 0 0, .slice none 0 0, .int .i64 0, .int .i64 0, .int .i64 0]) ?_ 2 _ rfl; (with_reducible repeat (first | refine blk_drewN ?_ _ | refine blk_drew ?_ | refine blk_alloc ?_ _)); refine blk_put (cs := #[.int .i64 0, .int .i64 0, .slice none 0 0, .slice none 0 0, .slice none 0 0, .int .i64 0, .int .i64 0, .int .i64 0]) ?_ 1 _ rfl; (with_reducible repeat (first | refine blk_drewN ?_ _ | refine blk_drew ?_ | refine blk_alloc ?_ _)); refine blk_put (cs := #[.int .i64 0, .int .i64 0, .slice none 0 0, .slice none 0 0, .slice none 0 0, .int .i64 0, .int .i64 0, .int .i64 0]) ?_ 0 _ rfl; (with_reducible repeat (first | refine blk_drewN ?_ _ | refine blk_drew ?_ | refine blk_alloc ?_ _)); exact HS.out.z.r) Try.underlying33 rfl (by kernel_rfl)) rfl ?_)
                                      all_goals (exact ⟨⟨0, none, 0, none, 0, none, 0, 0, _, rfl⟩, (by (with_reducible repeat (first | exact HS.out.z.b | refine below_set ?_ HS.out.z.gr_ | apply below_alloc | apply pw_below_drewN | apply below_drew1)); first | done | exact HS.out.z.b)⟩)
                                    · rw [if_neg (fun h_ => h_.elim cD cE)] at h
                                      have qE : decide (1508 < n4) = false := decide_eq_false cE
                                      clear cD cE
                                      obtain ⟨⟨t2, pA, dA⟩, h_, h⟩ := Option.bind_eq_some_iff.1 h
                                      have HA := Aside0.mk h_
                                      clear h_
                                      try dsimp only at h
                                      have H := Aside0.mk h
                                      clear h
                                      go_upto_region 45 with (first | (go_at_call 21; refine (spec_rv.tk_calls gs A0 c0 l0 p9 false n4 pA dA t2 t2.length w _ (show spec_rv.PK w _ gr gn gs gh A0 c0 l0 p9 false #[.int .i64 1, .int .i64 ver, .slice Ad dd.length cd, .slice As ss.length cs, .slice At tt.length ct, .int .i64 0, .int .i64 0, .int .i64 0] from (by first | done | exact HS.out | exact spec_rv.PK.drewN HS.out _ | exact spec_rv.PK.drew HS.out | ((with_reducible repeat (first | exact HS.out | apply spec_rv.PK.drewN | apply spec_rv.PK.drew)); done))).z.b HS.out.z.gs_ (show spec_rv.At _ gs A0 c0 l0 p9 false from (show spec_rv.PK w _ gr gn gs gh A0 c0 l0 p9 false #[.int .i64 1, .int .i64 ver, .slice Ad dd.length cd, .slice As ss.length cs, .slice At tt.length ct, .int .i64 0, .int .i64 0, .int .i64 0] from (by first | done | exact HS.out | exact spec_rv.PK.drewN HS.out _ | exact spec_rv.PK.drew HS.out | ((with_reducible repeat (first | exact HS.out | apply spec_rv.PK.drewN | apply spec_rv.PK.drew)); done))).z.s) HI.out HA.out rfl).mono ?_; rintro e w31 ⟨A5, c5, rfl, hc_, hcl_, hg_, hk_⟩; clear hc_ hcl_; have hs_ := Aside0.mk (show spec_rv.PK w w31 gr gn gs gh A0 c0 l0 pA dA #[.int .i64 1, .int .i64 ver, .slice Ad dd.length cd, .slice As ss.length cs, .slice At tt.length ct, .int .i64 0, .int .i64 0, .int .i64 0] from spec_rv.PK.call (show spec_rv.PK w _ gr gn gs gh A0 c0 l0 p9 false #[.int .i64 1, .int .i64 ver, .slice Ad dd.length cd, .slice As ss.length cs, .slice At tt.length ct, .int .i64 0, .int .i64 0, .int .i64 0] from (by first | done | exact HS.out | exact spec_rv.PK.drewN HS.out _ | exact spec_rv.PK.drew HS.out | ((with_reducible repeat (first | exact HS.out | apply spec_rv.PK.drewN | apply spec_rv.PK.drew)); done))) hk_ hg_); clear HS; have HS := hs_; clear hs_ hg_ hk_; clear y1179 f1180 y1181 f1182 y1183 f1184 y1185 f1186 y1187 f1188 y1189 f1190 y1191 f1192 y1193 f1194 y1195 f1196 y1197 f1198 y1199 f1200 y1201 f1202 y1203 f1204 y1205 f1206 y1207 f1208 y1209 f1210 y1211 f1212 y1213 f1214 y1215 f1216 y1217 f1218 y1219 f1220 y1221 f1222 y1223 f1224 y1225 f1226 y1227 f1228 y1229 f1230 y1231 f1232; obtain ⟨y1233, f1234, y1235, f1236, y1237, f1238⟩ := spec_rv.c3 HS.out.z.s; obtain ⟨y1239, f1240, y1241, f1242, y1243, f1244, y1245, f1246, y1247, f1248, y1249, f1250, y1251, f1252, y1253, f1254⟩ := spec_rv.c8 HS.out.h; obtain ⟨y1255, f1256, y1257, f1258, y1259, f1260, y1261, f1262, y1263, f1264, y1265, f1266, y1267, f1268, y1269, f1270⟩ := spec_rv.c8 HS.out.z.n; obtain ⟨y1271, f1272, y1273, f1274, y1275, f1276, y1277, f1278, y1279, f1280, y1281, f1282, y1283, f1284, y1285, f1286⟩ := spec_rv.c8 HS.out.z.r))
                                      refine spec_rv.cwp_seal (fun W_ => spec_rv.PK w W_ gr gn gs gh A0 c0 l0 pA dA #[.int .i64 1, .int .i64 ver, .slice Ad dd.length cd, .slice As ss.length cs, .slice At tt.length ct, .int .i64 0, .int .i64 0, .int .i64 0]) (by first | done | exact HS.out | exact spec_rv.PK.drewN HS.out _ | exact spec_rv.PK.drew HS.out | ((with_reducible repeat (first | exact HS.out | apply spec_rv.PK.drewN | apply spec_rv.PK.drew)); done)) ?_
                                      clear HS y1233 f1234 y1235 f1236 y1237 f1238 y1239 f1240 y1241 f1242 y1243 f1244 y1245 f1246 y1247 f1248 y1249 f1250 y1251 f1252 y1253 f1254 y1255 f1256 y1257 f1258 y1259 f1260 y1261 f1262 y1263 f1264 y1265 f1266 y1267 f1268 y1269 f1270 y1271 f1272 y1273 f1274 y1275 f1276 y1277 f1278 y1279 f1280 y1281 f1282 y1283 f1284 y1285 f1286
                                      rintro w32 hs_
                                      have HS := Aside0.mk hs_
                                      clear hs_
                                      obtain ⟨y1287, f1288, y1289, f1290, y1291, f1292⟩ := spec_rv.c3 HS.out.z.s
                                      obtain ⟨y1293, f1294, y1295, f1296, y1297, f1298, y1299, f1300, y1301, f1302, y1303, f1304, y1305, f1306, y1307, f1308⟩ := spec_rv.c8 HS.out.h
                                      obtain ⟨y1309, f1310, y1311, f1312, y1313, f1314, y1315, f1316, y1317, f1318, y1319, f1320, y1321, f1322, y1323, f1324⟩ := spec_rv.c8 HS.out.z.n
                                      obtain ⟨y1325, f1326, y1327, f1328, y1329, f1330, y1331, f1332, y1333, f1334, y1335, f1336, y1337, f1338, y1339, f1340⟩ := spec_rv.c8 HS.out.z.r
                                      have h := H.out
                                      clear H
                                      cases dA with
                                      | true =>
                                        rw [if_pos rfl] at h
                                        simp only [Option.some.injEq, Prod.mk.injEq] at h
                                        obtain ⟨rfl, rfl, rfl, rfl⟩ := h
                                        go_wp2
                                        try (go_region; all_goals go_wp2)
                                        all_goals (refine bodyPost_ret (results_ctt rfl _ _ gr 33 #[.int .i64 0, .int .i64 0, .slice none 0 0, .slice none 0 0, .slice none 0 0, .int .i64 0, .int .i64 0, .int .i64 0] (0, 0) _ rfl (by (with_reducible repeat (first | refine blk_drewN ?_ _ | refine blk_drew ?_ | refine blk_alloc ?_ _)); refine blk_put (cs := #[.int .i64 0, .int .i64 0, .slice none 0 0, .slice none 0 0, .slice none 0 0, .int .i64 0, .int .i64 0, .int .i64 0]) ?_ 7 _ rfl; (with_reducible repeat (first | refine blk_drewN ?_ _ | refine blk_drew ?_ | refine blk_alloc ?_ _)); refine blk_put (cs := #[.int .i64 0, .int .i64 0, .slice none 0 0, .slice none 0 0, .slice none 0 0, .int .i64 0, .int .i64 0, .int .i64 0]) ?_ 6 _ rfl; (with_reducible repeat (first | refine blk_drewN ?_ _ | refine blk_drew ?_ | refine blk_alloc ?_ _)); refine blk_put (cs := #[.int .i64 0, .int .i64 0, .slice none 0 0, .slice none 0 0, .slice none 0 0, .int .i64 0, .int .i64 0, .int .i64 0]) ?_ 5 _ rfl; (with_reducible repeat (first | refine blk_drewN ?_ _ | refine blk_drew ?_ | refine blk_alloc ?_ _)); refine blk_put (cs := #[.int .i64 0, .int .i64 0, .slice none 0 0, .slice none 0 0, .slice none 0 0, .int .i64 0, .int .i64 0, .int .i64 0]) ?_ 4 _ rfl; (with_reducible repeat (first | refine blk_drewN ?_ _ | refine blk_drew ?_ | refine blk_alloc ?_ _)); refine blk_put (cs := #[.int .i64 0, .int .i64 0, .slice none 0 0, .slice none 0 0, .slice none 0 0, .int .i64 0, .int .i64 0, .int .i64 0]) ?_ 3 _ rfl; (with_reducible repeat (first | refine blk_drewN ?_ _ | refine blk_drew ?_ | refine blk_alloc ?_ _)); refine blk_put (cs := #[.int .i64 0, .int .i64 0, .slice none 0 0, .slice none 0 0, .slice none 0 0, .int .i64 0, .int .i64 0, .int .i64 0]) ?_ 2 _ rfl; (with_reducible repeat (first | refine blk_drewN ?_ _ | refine blk_drew ?_ | refine blk_alloc ?_ _)); refine blk_put (cs := #[.int .i64 0, .int .i64 0, .slice none 0 0, .slice none 0 0, .slice none 0 0, .int .i64 0, .int .i64 0, .int .i64 0]) ?_ 1 _ rfl; (with_reducible repeat (first | refine blk_drewN ?_ _ | refine blk_drew ?_ | refine blk_alloc ?_ _)); refine blk_put (cs := #[.int .i64 0, .int .i64 0, .slice none 0 0, .slice none 0 0, .slice none 0 0, .int .i64 0, .int .i64 0, .int .i64 0]) ?_ 0 _ rfl; (with_reducible repeat (first | refine blk_drewN ?_ _ | refine blk_drew ?_ | refine blk_alloc ?_ _)); exact HS.out.z.r) Try.underlying33 rfl (by kernel_rfl)) rfl ?_)
                                        all_goals (exact ⟨⟨0, none, 0, none, 0, none, 0, 0, _, rfl⟩, (by (with_reducible repeat (first | exact HS.out.z.b | refine below_set ?_ HS.out.z.gr_ | apply below_alloc | apply pw_below_drewN | apply below_drew1)); first | done | exact HS.out.z.b)⟩)
                                      | false =>
                                        rw [if_neg (by simp)] at h
                                        simp only [Option.some.injEq, Prod.mk.injEq] at h
                                        obtain ⟨rfl, rfl, rfl, rfl⟩ := h
                                        go_wp2
                                        try (go_region; all_goals go_wp2)
                                        all_goals (refine bodyPost_ret (results_ctt rfl _ _ gr 33 #[.int .i64 1, .int .i64 ver, .slice Ad dd.length cd, .slice As ss.length cs, .slice At tt.length ct, .int .i64 0, .int .i64 0, .int .i64 0] (0, 0) _ rfl (by (with_reducible repeat (first | refine blk_drewN ?_ _ | refine blk_drew ?_ | refine blk_alloc ?_ _)); refine blk_put (cs := #[.int .i64 1, .int .i64 ver, .slice Ad dd.length cd, .slice As ss.length cs, .slice At tt.length ct, .int .i64 0, .int .i64 0, .int .i64 0]) ?_ 7 _ rfl; (with_reducible repeat (first | refine blk_drewN ?_ _ | refine blk_drew ?_ | refine blk_alloc ?_ _)); refine blk_put (cs := #[.int .i64 1, .int .i64 ver, .slice Ad dd.length cd, .slice As ss.length cs, .slice At tt.length ct, .int .i64 0, .int .i64 0, .int .i64 0]) ?_ 6 _ rfl; (with_reducible repeat (first | refine blk_drewN ?_ _ | refine blk_drew ?_ | refine blk_alloc ?_ _)); refine blk_put (cs := #[.int .i64 1, .int .i64 ver, .slice Ad dd.length cd, .slice As ss.length cs, .slice At tt.length ct, .int .i64 0, .int .i64 0, .int .i64 0]) ?_ 5 _ rfl; (with_reducible repeat (first | refine blk_drewN ?_ _ | refine blk_drew ?_ | refine blk_alloc ?_ _)); refine blk_put (cs := #[.int .i64 1, .int .i64 ver, .slice Ad dd.length cd, .slice As ss.length cs, .slice none 0 0, .int .i64 0, .int .i64 0, .int .i64 0]) ?_ 4 _ rfl; (with_reducible repeat (first | refine blk_drewN ?_ _ | refine blk_drew ?_ | refine blk_alloc ?_ _)); refine blk_put (cs := #[.int .i64 1, .int .i64 ver, .slice Ad dd.length cd, .slice none 0 0, .slice none 0 0, .int .i64 0, .int .i64 0, .int .i64 0]) ?_ 3 _ rfl; (with_reducible repeat (first | refine blk_drewN ?_ _ | refine blk_drew ?_ | refine blk_alloc ?_ _)); refine blk_put (cs := #[.int .i64 1, .int .i64 ver, .slice none 0 0, .slice none 0 0, .slice none 0 0, .int .i64 0, .int .i64 0, .int .i64 0]) ?_ 2 _ rfl; (with_reducible repeat (first | refine blk_drewN ?_ _ | refine blk_drew ?_ | refine blk_alloc ?_ _)); refine blk_put (cs := #[.int .i64 1, .int .i64 0, .slice none 0 0, .slice none 0 0, .slice none 0 0, .int .i64 0, .int .i64 0, .int .i64 0]) ?_ 1 _ rfl; (with_reducible repeat (first | refine blk_drewN ?_ _ | refine blk_drew ?_ | refine blk_alloc ?_ _)); refine blk_put (cs := #[.int .i64 0, .int .i64 0, .slice none 0 0, .slice none 0 0, .slice none 0 0, .int .i64 0, .int .i64 0, .int .i64 0]) ?_ 0 _ rfl; (with_reducible repeat (first | refine blk_drewN ?_ _ | refine blk_drew ?_ | refine blk_alloc ?_ _)); exact HS.out.z.r) Try.underlying33 rfl (by kernel_rfl)) rfl ?_)
                                        all_goals (exact ⟨⟨ver, Ad, cd, As, cs, At, tt.length, ct, _, rfl⟩, (by (with_reducible repeat (first | exact HS.out.z.b | refine below_set ?_ HS.out.z.gr_ | apply below_alloc | apply pw_below_drewN | apply below_drew1)); first | done | exact HS.out.z.b)⟩)
                          · rw [if_neg cB] at h
                            have qB : (qb == 0) = false := beq_eq_false_iff_ne.2 cB
                            clear cB
                            have H := Aside0.mk h
                            clear h
                            go_upto_region 41 with (fail)
                            clear qB
                            refine spec_rv.cwp_seal (fun W_ => spec_rv.PK w W_ gr gn gs gh A0 c0 l0 p6 false #[.int .i64 2, .int .i64 ver, .slice Ad dd.length cd, .slice As ss.length cs, .slice none 0 0, .int .i64 0, .int .i64 0, .int .i64 0]) (by first | done | exact HS.out | exact spec_rv.PK.drewN HS.out _ | exact spec_rv.PK.drew HS.out | ((with_reducible repeat (first | exact HS.out | apply spec_rv.PK.drewN | apply spec_rv.PK.drew)); done)) ?_
                            clear HS y801 f802 y803 f804 y805 f806 y807 f808 y809 f810 y811 f812 y813 f814 y815 f816 y817 f818 y819 f820 y821 f822 y823 f824 y825 f826 y827 f828 y829 f830 y831 f832 y833 f834 y835 f836 y837 f838 y839 f840 y841 f842 y843 f844 y845 f846 y847 f848 y849 f850 y851 f852 y853 f854
                            rintro w28 hs_
                            have HS := Aside0.mk hs_
                            clear hs_
                            obtain ⟨y855, f856, y857, f858, y859, f860⟩ := spec_rv.c3 HS.out.z.s
                            obtain ⟨y861, f862, y863, f864, y865, f866, y867, f868, y869, f870, y871, f872, y873, f874, y875, f876⟩ := spec_rv.c8 HS.out.h
                            obtain ⟨y877, f878, y879, f880, y881, f882, y883, f884, y885, f886, y887, f888, y889, f890, y891, f892⟩ := spec_rv.c8 HS.out.z.n
                            obtain ⟨y893, f894, y895, f896, y897, f898, y899, f900, y901, f902, y903, f904, y905, f906, y907, f908⟩ := spec_rv.c8 HS.out.z.r
                            have h := H.out
                            clear H
                            unfold spec_rv.tail at h
                            obtain ⟨⟨n4, p9, d9⟩, h_, h⟩ := Option.bind_eq_some_iff.1 h
                            have H9 := Aside0.mk h_
                            clear h_
                            try dsimp only at h
                            have H := Aside0.mk h
                            clear h
                            go_upto_region 42 with (first | (go_at_call 24; refine (spec_rv.num_calls k gs A0 c0 l0 p6 false n4 p9 d9 _ (show spec_rv.At _ gs A0 c0 l0 p6 false from (show spec_rv.PK w _ gr gn gs gh A0 c0 l0 p6 false #[.int .i64 2, .int .i64 ver, .slice Ad dd.length cd, .slice As ss.length cs, .slice none 0 0, .int .i64 0, .int .i64 0, .int .i64 0] from (by first | done | exact HS.out | exact spec_rv.PK.drewN HS.out _ | exact spec_rv.PK.drew HS.out | ((with_reducible repeat (first | exact HS.out | apply spec_rv.PK.drewN | apply spec_rv.PK.drew)); done))).z.s) (Kd.C_below HI.out.r (show spec_rv.PK w _ gr gn gs gh A0 c0 l0 p6 false #[.int .i64 2, .int .i64 ver, .slice Ad dd.length cd, .slice As ss.length cs, .slice none 0 0, .int .i64 0, .int .i64 0, .int .i64 0] from (by first | done | exact HS.out | exact spec_rv.PK.drewN HS.out _ | exact spec_rv.PK.drew HS.out | ((with_reducible repeat (first | exact HS.out | apply spec_rv.PK.drewN | apply spec_rv.PK.drew)); done))).z.b) HI.out.c H9.out).mono ?_; rintro e w29 ⟨rfl, hg_, hk_⟩; have hs_ := Aside0.mk (show spec_rv.PK w w29 gr gn gs gh A0 c0 l0 p9 d9 #[.int .i64 2, .int .i64 ver, .slice Ad dd.length cd, .slice As ss.length cs, .slice none 0 0, .int .i64 0, .int .i64 0, .int .i64 0] from spec_rv.PK.call (show spec_rv.PK w _ gr gn gs gh A0 c0 l0 p6 false #[.int .i64 2, .int .i64 ver, .slice Ad dd.length cd, .slice As ss.length cs, .slice none 0 0, .int .i64 0, .int .i64 0, .int .i64 0] from (by first | done | exact HS.out | exact spec_rv.PK.drewN HS.out _ | exact spec_rv.PK.drew HS.out | ((with_reducible repeat (first | exact HS.out | apply spec_rv.PK.drewN | apply spec_rv.PK.drew)); done))) hk_ hg_); clear HS; have HS := hs_; clear hs_ hg_ hk_; clear y855 f856 y857 f858 y859 f860 y861 f862 y863 f864 y865 f866 y867 f868 y869 f870 y871 f872 y873 f874 y875 f876 y877 f878 y879 f880 y881 f882 y883 f884 y885 f886 y887 f888 y889 f890 y891 f892 y893 f894 y895 f896 y897 f898 y899 f900 y901 f902 y903 f904 y905 f906 y907 f908; obtain ⟨y909, f910, y911, f912, y913, f914⟩ := spec_rv.c3 HS.out.z.s; obtain ⟨y915, f916, y917, f918, y919, f920, y921, f922, y923, f924, y925, f926, y927, f928, y929, f930⟩ := spec_rv.c8 HS.out.h; obtain ⟨y931, f932, y933, f934, y935, f936, y937, f938, y939, f940, y941, f942, y943, f944, y945, f946⟩ := spec_rv.c8 HS.out.z.n; obtain ⟨y947, f948, y949, f950, y951, f952, y953, f954, y955, f956, y957, f958, y959, f960, y961, f962⟩ := spec_rv.c8 HS.out.z.r))
                            refine spec_rv.cwp_seal (fun W_ => spec_rv.PK w W_ gr gn gs gh A0 c0 l0 p9 d9 #[.int .i64 2, .int .i64 ver, .slice Ad dd.length cd, .slice As ss.length cs, .slice none 0 0, .int .i64 0, .int .i64 0, .int .i64 0]) (by first | done | exact HS.out | exact spec_rv.PK.drewN HS.out _ | exact spec_rv.PK.drew HS.out | ((with_reducible repeat (first | exact HS.out | apply spec_rv.PK.drewN | apply spec_rv.PK.drew)); done)) ?_
                            clear HS y909 f910 y911 f912 y913 f914 y915 f916 y917 f918 y919 f920 y921 f922 y923 f924 y925 f926 y927 f928 y929 f930 y931 f932 y933 f934 y935 f936 y937 f938 y939 f940 y941 f942 y943 f944 y945 f946 y947 f948 y949 f950 y951 f952 y953 f954 y955 f956 y957 f958 y959 f960 y961 f962
                            rintro w30 hs_
                            have HS := Aside0.mk hs_
                            clear hs_
                            obtain ⟨y963, f964, y965, f966, y967, f968⟩ := spec_rv.c3 HS.out.z.s
                            obtain ⟨y969, f970, y971, f972, y973, f974, y975, f976, y977, f978, y979, f980, y981, f982, y983, f984⟩ := spec_rv.c8 HS.out.h
                            obtain ⟨y985, f986, y987, f988, y989, f990, y991, f992, y993, f994, y995, f996, y997, f998, y999, f1000⟩ := spec_rv.c8 HS.out.z.n
                            obtain ⟨y1001, f1002, y1003, f1004, y1005, f1006, y1007, f1008, y1009, f1010, y1011, f1012, y1013, f1014, y1015, f1016⟩ := spec_rv.c8 HS.out.z.r
                            have h := H.out
                            clear H
                            cases d9 with
                            | true =>
                              rw [if_pos rfl] at h
                              simp only [Option.some.injEq, Prod.mk.injEq] at h
                              obtain ⟨rfl, rfl, rfl, rfl⟩ := h
                              go_wp2
                              go_region_with (first | (go_at_call 22; refine (spec_rv.fault_t gs A0 c0 l0 p9 _ (show spec_rv.At _ gs A0 c0 l0 p9 true from (show spec_rv.PK w _ gr gn gs gh A0 c0 l0 p9 true #[.int .i64 2, .int .i64 ver, .slice Ad dd.length cd, .slice As ss.length cs, .slice none 0 0, .int .i64 0, .int .i64 0, .int .i64 0] from (by first | done | exact HS.out | exact spec_rv.PK.drewN HS.out _ | exact spec_rv.PK.drew HS.out | ((with_reducible repeat (first | exact HS.out | apply spec_rv.PK.drewN | apply spec_rv.PK.drew)); done))).z.s)).mono ?_; rintro e w2_ ⟨rfl, rfl⟩))
                              all_goals go_wp2
                              all_goals (refine bodyPost_ret (results_ctt rfl _ _ gr 33 #[.int .i64 0, .int .i64 0, .slice none 0 0, .slice none 0 0, .slice none 0 0, .int .i64 0, .int .i64 0, .int .i64 0] (0, 0) _ rfl (by (with_reducible repeat (first | refine blk_drewN ?_ _ | refine blk_drew ?_ | refine blk_alloc ?_ _)); refine blk_put (cs := #[.int .i64 0, .int .i64 0, .slice none 0 0, .slice none 0 0, .slice none 0 0, .int .i64 0, .int .i64 0, .int .i64 0]) ?_ 7 _ rfl; (with_reducible repeat (first | refine blk_drewN ?_ _ | refine blk_drew ?_ | refine blk_alloc ?_ _)); refine blk_put (cs := #[.int .i64 0, .int .i64 0, .slice none 0 0, .slice none 0 0, .slice none 0 0, .int .i64 0, .int .i64 0, .int .i64 0]) ?_ 6 _ rfl; (with_reducible repeat (first | refine blk_drewN ?_ _ | refine blk_drew ?_ | refine blk_alloc ?_ _)); refine blk_put (cs := #[.int .i64 0, .int .i64 0, .slice none 0 0, .slice none 0 0, .slice none 0 0, .int .i64 0, .int .i64 0, .int .i64 0]) ?_ 5 _ rfl; (with_reducible repeat (first | refine blk_drewN ?_ _ | refine blk_drew ?_ | refine blk_alloc ?_ _)); refine blk_put (cs := #[.int .i64 0, .int .i64 0, .slice none 0 0, .slice none 0 0, .slice none 0 0, .int .i64 0, .int .i64 0, .int .i64 0]) ?_ 4 _ rfl; (with_reducible repeat (first | refine blk_drewN ?_ _ | refine blk_drew ?_ | refine blk_alloc ?_ _)); refine blk_put (cs := #[.int .i64 0, .int .i64 0, .slice none 0 0, .slice none 0 0, .slice none 0 0, .int .i64 0, .int .i64 0, .int .i64 0]) ?_ 3 _ rfl; (with_reducible repeat (first | refine blk_drewN ?_ _ | refine blk_drew ?_ | refine blk_alloc ?_ _)); refine blk_put (cs := #[.int .i64 0, .int .i64 0, .slice none 0 0, .slice none 0 0, .slice none 0 0, .int .i64 0, .int .i64 0, .int .i64 0]) ?_ 2 _ rfl; (with_reducible repeat (first | refine blk_drewN ?_ _ | refine blk_drew ?_ | refine blk_alloc ?_ _)); refine blk_put (cs := #[.int .i64 0, .int .i64 0, .slice none 0 0, .slice none 0 0, .slice none 0 0, .int .i64 0, .int .i64 0, .int .i64 0]) ?_ 1 _ rfl; (with_reducible repeat (first | refine blk_drewN ?_ _ | refine blk_drew ?_ | refine blk_alloc ?_ _)); refine blk_put (cs := #[.int .i64 0, .int .i64 0, .slice none 0 0, .slice none 0 0, .slice none 0 0, .int .i64 0, .int .i64 0, .int .i64 0]) ?_ 0 _ rfl; (with_reducible repeat (first | refine blk_drewN ?_ _ | refine blk_drew ?_ | refine blk_alloc ?_ _)); exact HS.out.z.r) Try.underlying33 rfl (by kernel_rfl)) rfl ?_)
                              all_goals (exact ⟨⟨0, none, 0, none, 0, none, 0, 0, _, rfl⟩, (by (with_reducible repeat (first | exact HS.out.z.b | refine below_set ?_ HS.out.z.gr_ | apply below_alloc | apply pw_below_drewN | apply below_drew1)); first | done | exact HS.out.z.b)⟩)
                            | false =>
                              rw [if_neg (by simp)] at h
                              by_cases cD : n4 < 12
                              · rw [if_pos (.inl cD)] at h
                                have qD : decide (n4 < 12) = true := decide_eq_true cD
                                clear cD
                                simp only [Option.some.injEq, Prod.mk.injEq] at h
                                obtain ⟨rfl, rfl, rfl, rfl⟩ := h
                                go_wp2
                                go_region_with (first | (go_at_call 22; refine (spec_rv.fault_f gs A0 c0 l0 p9 _ (show spec_rv.At _ gs A0 c0 l0 p9 false from (show spec_rv.PK w _ gr gn gs gh A0 c0 l0 p9 false #[.int .i64 2, .int .i64 ver, .slice Ad dd.length cd, .slice As ss.length cs, .slice none 0 0, .int .i64 0, .int .i64 0, .int .i64 0] from (by first | done | exact HS.out | exact spec_rv.PK.drewN HS.out _ | exact spec_rv.PK.drew HS.out | ((with_reducible repeat (first | exact HS.out | apply spec_rv.PK.drewN | apply spec_rv.PK.drew)); done))).z.s)).mono ?_; rintro e w2_ ⟨rfl, rfl⟩))
                                all_goals go_wp2
                                all_goals (refine bodyPost_ret (results_ctt rfl _ _ gr 33 #[.int .i64 0, .int .i64 0, .slice none 0 0, .slice none 0 0, .slice none 0 0, .int .i64 0, .int .i64 0, .int .i64 0] (0, 0) _ rfl (by (with_reducible repeat (first | refine blk_drewN ?_ _ | refine blk_drew ?_ | refine blk_alloc ?_ _)); refine blk_put (cs := #[.int .i64 0, .int .i64 0, .slice none 0 0, .slice none 0 0, .slice none 0 0, .int .i64 0, .int .i64 0, .int .i64 0]) ?_ 7 _ rfl; (with_reducible repeat (first | refine blk_drewN ?_ _ | refine blk_drew ?_ | refine blk_alloc ?_ _)); refine blk_put (cs := #[.int .i64 0, .int .i64 0, .slice none 0 0, .slice none 0 0, .slice none 0 0, .int .i64 0, .int .i64 0, .int .i64 0]) ?_ 6 _ rfl; (with_reducible repeat (first | refine blk_drewN ?_ _ | refine blk_drew ?_ | refine blk_alloc ?_ _)); refine blk_put (cs := #[.int .i64 0, .int .i64 0, .slice none 0 0, .slice none 0 0, .slice none 0 0, .int .i64 0, .int .i64 0, .int .i64 0]) ?_ 5 _ rfl; (with_reducible repeat (first | refine blk_drewN ?_ _ | refine blk_drew ?_ | refine blk_alloc ?_ _)); refine blk_put (cs := #[.int .i64 0, .int .i64 0, .slice none 0 0, .slice none 0 0, .slice none 0 0, .int .i64 0, .int .i64 0, .int .i64 0]) ?_ 4 _ rfl; (with_reducible repeat (first | refine blk_drewN ?_ _ | refine blk_drew ?_ | refine blk_alloc ?_ _)); refine blk_put (cs := #[.int .i64 0, .int .i64 0, .slice none 0 0, .slice none 0 0, .slice none 0 0, .int .i64 0, .int .i64 0, .int .i64 0]) ?_ 3 _ rfl; (with_reducible repeat (first | refine blk_drewN ?_ _ | refine blk_drew ?_ | refine blk_alloc ?_ _)); refine blk_put (cs := #[.int .i64 0, .int .i64 0, .slice none 0 0, .slice none 0 0, .slice none 0 0, .int .i64 0, .int .i64 0, .int .i64 0]) ?_ 2 _ rfl; (with_reducible repeat (first | refine blk_drewN ?_ _ | refine blk_drew ?_ | refine blk_alloc ?_ _)); refine blk_put (cs := #[.int .i64 0, .int .i64 0, .slice none 0 0, .slice none 0 0, .slice none 0 0, .int .i64 0, .int .i64 0, .int .i64 0]) ?_ 1 _ rfl; (with_reducible repeat (first | refine blk_drewN ?_ _ | refine blk_drew ?_ | refine blk_alloc ?_ _)); refine blk_put (cs := #[.int .i64 0, .int .i64 0, .slice none 0 0, .slice none 0 0, .slice none 0 0, .int .i64 0, .int .i64 0, .int .i64 0]) ?_ 0 _ rfl; (with_reducible repeat (first | refine blk_drewN ?_ _ | refine blk_drew ?_ | refine blk_alloc ?_ _)); exact HS.out.z.r) Try.underlying33 rfl (by kernel_rfl)) rfl ?_)
                                all_goals (exact ⟨⟨0, none, 0, none, 0, none, 0, 0, _, rfl⟩, (by (with_reducible repeat (first | exact HS.out.z.b | refine below_set ?_ HS.out.z.gr_ | apply below_alloc | apply pw_below_drewN | apply below_drew1)); first | done | exact HS.out.z.b)⟩)
                              · have qD : decide (n4 < 12) = false := decide_eq_false cD
                                by_cases cE : 1508 < n4
                                · rw [if_pos (.inr cE)] at h
                                  have qE : decide (1508 < n4) = true := decide_eq_true cE
                                  clear cD cE
                                  simp only [Option.some.injEq, Prod.mk.injEq] at h
                                  obtain ⟨rfl, rfl, rfl, rfl⟩ := h
                                  go_wp2
                                  go_region_with (first | (go_at_call 22; refine (spec_rv.fault_f gs A0 c0 l0 p9 _ (show spec_rv.At _ gs A0 c0 l0 p9 false from (show spec_rv.PK w _ gr gn gs gh A0 c0 l0 p9 false #[.int .i64 2, .int .i64 ver, .slice Ad dd.length cd, .slice As ss.length cs, .slice none 0 0, .int .i64 0, .int .i64 0, .int .i64 0] from (by first | done | exact HS.out | exact spec_rv.PK.drewN HS.out _ | exact spec_rv.PK.drew HS.out | ((with_reducible repeat (first | exact HS.out | apply spec_rv.PK.drewN | apply spec_rv.PK.drew)); done))).z.s)).mono ?_; rintro e w2_ ⟨rfl, rfl⟩))
                                  all_goals go_wp2
                                  all_goals (refine bodyPost_ret (results_ctt rfl _ _ gr 33 #[.int .i64 0, .int .i64 0, .slice none 0 0, .slice none 0 0, .slice none 0 0, .int .i64 0, .int .i64 0, .int .i64 0] (0, 0) _ rfl (by (with_reducible repeat (first | refine blk_drewN ?_ _ | refine blk_drew ?_ | refine blk_alloc ?_ _)); refine blk_put (cs := #[.int .i64 0, .int .i64 0, .slice none 0 0, .slice none 0 0, .slice none 0 0, .int .i64 0, .int .i64 0, .int .i64 0]) ?_ 7 _ rfl; (with_reducible repeat (first | refine blk_drewN ?_ _ | refine blk_drew ?_ | refine blk_alloc ?_ _)); refine blk_put (cs := #[.int .i64 0, .int .i64 0, .slice none 0 0, .slice none 0 0, .slice none 0 0, .int .i64 0, .int .i64 0, .int .i64 0]) ?_ 6 _ rfl; (with_reducible repeat (first | refine blk_drewN ?_ _ | refine blk_drew ?_ | refine blk_alloc ?_ _)); refine blk_put (cs := #[.int .i64 0, .int .i64 0, .slice none 0 0, .slice none 0 0, .slice none 0 0, .int .i64 0, .int .i64 0, .int .i64 0]) ?_ 5 _ rfl; (with_reducible repeat (first | refine blk_drewN ?_ _ | refine blk_drew ?_ | refine blk_alloc ?_ _)); refine blk_put (cs := #[.int .i64 0, .int .i64 0, .slice none 0 0, .slice none 0 0, .slice none 0 0, .int .i64 0, .int .i64 0, .int .i64 0]) ?_ 4 _ rfl; (with_reducible repeat (first | refine blk_drewN ?_ _ | refine blk_drew ?_ | refine blk_alloc ?_ _)); refine blk_put (cs := #[.int .i64 0, .int .i64 0, .slice none 0 0, .slice none 0 0, .slice none 0 0, .int .i64 0, .int .i64 0, .int .i64 0]) ?_ 3 _ rfl; (with_reducible repeat (first | refine blk_drewN ?_ _ | refine blk_drew ?_ | refine blk_alloc ?_ _)); refine blk_put (cs := #[.int .i64 0, .int .i64 0, .slice none 0 0, .slice none 0 0, .slice none 0 0, .int .i64 0, .int .i64 0, .int .i64 0]) ?_ 2 _ rfl; (with_reducible repeat (first | refine blk_drewN ?_ _ | refine blk_drew ?_ | refine blk_alloc ?_ _)); refine blk_put (cs := #[.int .i64 0, .int .i64 0, .slice none 0 0, .slice none 0 0, .slice none 0 0, .int .i64 0, .int .i64 0, .int .i64 0]) ?_ 1 _ rfl; (with_reducible repeat (first | refine blk_drewN ?_ _ | refine blk_drew ?_ | refine blk_alloc ?_ _)); refine blk_put (cs := #[.int .i64 0, .int .i64 0, .slice none 0 0, .slice none 0 0, .slice none 0 0, .int .i64 0, .int .i64 0, .int .i64 0]) ?_ 0 _ rfl; (with_reducible repeat (first | refine blk_drewN ?_ _ | refine blk_drew ?_ | refine blk_alloc ?_ _)); exact HS.out.z.r) Try.underlying33 rfl (by kernel_rfl)) rfl ?_)
                                  all_goals (exact ⟨⟨0, none, 0, none, 0, none, 0, 0, _, rfl⟩, (by (with_reducible repeat (first | exact HS.out.z.b | refine below_set ?_ HS.out.z.gr_ | apply below_alloc | apply pw_below_drewN | apply below_drew1)); first | done | exact HS.out.z.b)⟩)
                                · rw [if_neg (fun h_ => h_.elim cD cE)] at h
                                  have qE : decide (1508 < n4) = false := decide_eq_false cE
                                  clear cD cE
                                  obtain ⟨⟨t2, pA, dA⟩, h_, h⟩ := Option.bind_eq_some_iff.1 h
                                  have HA := Aside0.mk h_
                                  clear h_
                                  try dsimp only at h
                                  have H := Aside0.mk h
                                  clear h
                                  go_upto_region 45 with (first | (go_at_call 21; refine (spec_rv.tk_calls gs A0 c0 l0 p9 false n4 pA dA t2 t2.length w _ (show spec_rv.PK w _ gr gn gs gh A0 c0 l0 p9 false #[.int .i64 2, .int .i64 ver, .slice Ad dd.length cd, .slice As ss.length cs, .slice none 0 0, .int .i64 0, .int .i64 0, .int .i64 0] from (by first | done | exact HS.out | exact spec_rv.PK.drewN HS.out _ | exact spec_rv.PK.drew HS.out | ((with_reducible repeat (first | exact HS.out | apply spec_rv.PK.drewN | apply spec_rv.PK.drew)); done))).z.b HS.out.z.gs_ (show spec_rv.At _ gs A0 c0 l0 p9 false from (show spec_rv.PK w _ gr gn gs gh A0 c0 l0 p9 false #[.int .i64 2, .int .i64 ver, .slice Ad dd.length cd, .slice As ss.length cs, .slice none 0 0, .int .i64 0, .int .i64 0, .int .i64 0] from (by first | done | exact HS.out | exact spec_rv.PK.drewN HS.out _ | exact spec_rv.PK.drew HS.out | ((with_reducible repeat (first | exact HS.out | apply spec_rv.PK.drewN | apply spec_rv.PK.drew)); done))).z.s) HI.out HA.out rfl).mono ?_; rintro e w31 ⟨A5, c5, rfl, hc_, hcl_, hg_, hk_⟩; clear hc_ hcl_; have hs_ := Aside0.mk (show spec_rv.PK w w31 gr gn gs gh A0 c0 l0 pA dA #[.int .i64 2, .int .i64 ver, .slice Ad dd.length cd, .slice As ss.length cs, .slice none 0 0, .int .i64 0, .int .i64 0, .int .i64 0] from spec_rv.PK.call (show spec_rv.PK w _ gr gn gs gh A0 c0 l0 p9 false #[.int .i64 2, .int .i64 ver, .slice Ad dd.length cd, .slice As ss.length cs, .slice none 0 0, .int .i64 0, .int .i64 0, .int .i64 0] from (by first | done | exact HS.out | exact spec_rv.PK.drewN HS.out _ | exact spec_rv.PK.drew HS.out | ((with_reducible repeat (first | exact HS.out | apply spec_rv.PK.drewN | apply spec_rv.PK.drew)); done))) hk_ hg_); clear HS; have HS := hs_; clear hs_ hg_ hk_; clear y963 f964 y965 f966 y967 f968 y969 f970 y971 f972 y973 f974 y975 f976 y977 f978 y979 f980 y981 f982 y983 f984 y985 f986 y987 f988 y989 f990 y991 f992 y993 f994 y995 f996 y997 f998 y999 f1000 y1001 f1002 y1003 f1004 y1005 f1006 y1007 f1008 y1009 f1010 y1011 f1012 y1013 f1014 y1015 f1016; obtain ⟨y1017, f1018, y1019, f1020, y1021, f1022⟩ := spec_rv.c3 HS.out.z.s; obtain ⟨y1023, f1024, y1025, f1026, y1027, f1028, y1029, f1030, y1031, f1032, y1033, f1034, y1035, f1036, y1037, f1038⟩ := spec_rv.c8 HS.out.h; obtain ⟨y1039, f1040, y1041, f1042, y1043, f1044, y1045, f1046, y1047, f1048, y1049, f1050, y1051, f1052, y1053, f1054⟩ := spec_rv.c8 HS.out.z.n; obtain ⟨y1055, f1056, y1057, f1058, y1059, f1060, y1061, f1062, y1063, f1064, y1065, f1066, y1067, f1068, y1069, f1070⟩ := spec_rv.c8 HS.out.z.r))
                                  refine spec_rv.cwp_seal (fun W_ => spec_rv.PK w W_ gr gn gs gh A0 c0 l0 pA dA #[.int .i64 2, .int .i64 ver, .slice Ad dd.length cd, .slice As ss.length cs, .slice none 0 0, .int .i64 0, .int .i64 0, .int .i64 0]) (by first | done | exact HS.out | exact spec_rv.PK.drewN HS.out _ | exact spec_rv.PK.drew HS.out | ((with_reducible repeat (first | exact HS.out | apply spec_rv.PK.drewN | apply spec_rv.PK.drew)); done)) ?_
                                  clear HS y1017 f1018 y1019 f1020 y1021 f1022 y1023 f1024 y1025 f1026 y1027 f1028 y1029 f1030 y1031 f1032 y1033 f1034 y1035 f1036 y1037 f1038 y1039 f1040 y1041 f1042 y1043 f1044 y1045 f1046 y1047 f1048 y1049 f1050 y1051 f1052 y1053 f1054 y1055 f1056 y1057 f1058 y1059 f1060 y1061 f1062 y1063 f1064 y1065 f1066 y1067 f1068 y1069 f1070
                                  rintro w32 hs_
                                  have HS := Aside0.mk hs_
                                  clear hs_
                                  obtain ⟨y1071, f1072, y1073, f1074, y1075, f1076⟩ := spec_rv.c3 HS.out.z.s
                                  obtain ⟨y1077, f1078, y1079, f1080, y1081, f1082, y1083, f1084, y1085, f1086, y1087, f1088, y1089, f1090, y1091, f1092⟩ := spec_rv.c8 HS.out.h
                                  obtain ⟨y1093, f1094, y1095, f1096, y1097, f1098, y1099, f1100, y1101, f1102, y1103, f1104, y1105, f1106, y1107, f1108⟩ := spec_rv.c8 HS.out.z.n
                                  obtain ⟨y1109, f1110, y1111, f1112, y1113, f1114, y1115, f1116, y1117, f1118, y1119, f1120, y1121, f1122, y1123, f1124⟩ := spec_rv.c8 HS.out.z.r
                                  have h := H.out
                                  clear H
                                  cases dA with
                                  | true =>
                                    rw [if_pos rfl] at h
                                    simp only [Option.some.injEq, Prod.mk.injEq] at h
                                    obtain ⟨rfl, rfl, rfl, rfl⟩ := h
                                    go_wp2
                                    try (go_region; all_goals go_wp2)
                                    all_goals (refine bodyPost_ret (results_ctt rfl _ _ gr 33 #[.int .i64 0, .int .i64 0, .slice none 0 0, .slice none 0 0, .slice none 0 0, .int .i64 0, .int .i64 0, .int .i64 0] (0, 0) _ rfl (by (with_reducible repeat (first | refine blk_drewN ?_ _ | refine blk_drew ?_ | refine blk_alloc ?_ _)); refine blk_put (cs := #[.int .i64 0, .int .i64 0, .slice none 0 0, .slice none 0 0, .slice none 0 0, .int .i64 0, .int .i64 0, .int .i64 0]) ?_ 7 _ rfl; (with_reducible repeat (first | refine blk_drewN ?_ _ | refine blk_drew ?_ | refine blk_alloc ?_ _)); refine blk_put (cs := #[.int .i64 0, .int .i64 0, .slice none 0 0, .slice none 0 0, .slice none 0 0, .int .i64 0, .int .i64 0, .int .i64 0]) ?_ 6 _ rfl; (with_reducible repeat (first | refine blk_drewN ?_ _ | refine blk_drew ?_ | refine blk_alloc ?_ _)); refine blk_put (cs := #[.int .i64 0, .int .i64 0, .slice none 0 0, .slice none 0 0, .slice none 0 0, .int .i64 0, .int .i64 0, .int .i64 0]) ?_ 5 _ rfl; (with_reducible repeat (first | refine blk_drewN ?_ _ | refine blk_drew ?_ | refine blk_alloc ?_ _)); refine blk_put (cs := #[.int .i64 0, .int .i64 0, .slice none 0 0, .slice none 0 0, .slice none 0 0, .int .i64 0, .int .i64 0, .int .i64 0]) ?_ 4 _ rfl; (with_reducible repeat (first | refine blk_drewN ?_ _ | refine blk_drew ?_ | refine blk_alloc ?_ _)); refine blk_put (cs := #[.int .i64 0, .int .i64 0, .slice none 0 0, .slice none 0 0, .slice none 0 0, .int .i64 0, .int .i64 0, .int .i64 0]) ?_ 3 _ rfl; (with_reducible repeat (first | refine blk_drewN ?_ _ | refine blk_drew ?_ | refine blk_alloc ?_ _)); refine blk_put (cs := #[.int .i64 0, .int .i64 0, .slice none 0 0, .slice none 0 0, .slice none 0 0, .int .i64 0, .int .i64 0, .int .i64 0]) ?_ 2 _ rfl; (with_reducible repeat (first | refine blk_drewN ?_ _ | refine blk_drew ?_ | refine blk_alloc ?_ _)); refine blk_put (cs := #[.int .i64 0, .int .i64 0, .slice none 0 0, .slice none 0 0, .slice none 0 0, .int .i64 0, .int .i64 0, .int .i64 0]) ?_ 1 _ rfl; (with_reducible repeat (first | refine blk_drewN ?_ _ | refine blk_drew ?_ | refine blk_alloc ?_ _)); refine blk_put (cs := #[.int .i64 0, .int .i64 0, .slice none 0 0, .slice none 0 0, .slice none 0 0, .int .i64 0, .int .i64 0, .int .i64 0]) ?_ 0 _ rfl; (with_reducible repeat (first | refine blk_drewN ?_ _ | refine blk_drew ?_ | refine blk_alloc ?_ _)); exact HS.out.z.r) Try.underlying33 rfl (by kernel_rfl)) rfl ?_)
                                    all_goals (exact ⟨⟨0, none, 0, none, 0, none, 0, 0, _, rfl⟩, (by (with_reducible repeat (first | exact HS.out.z.b | refine below_set ?_ HS.out.z.gr_ | apply below_alloc | apply pw_below_drewN | apply below_drew1)); first | done | exact HS.out.z.b)⟩)
                                  | false =>
                                    rw [if_neg (by simp)] at h
                                    simp only [Option.some.injEq, Prod.mk.injEq] at h
                                    obtain ⟨rfl, rfl, rfl, rfl⟩ := h
                                    go_wp2
                                    try (go_region; all_goals go_wp2)
                                    all_goals (refine bodyPost_ret (results_ctt rfl _ _ gr 33 #[.int .i64 2, .int .i64 ver, .slice Ad dd.length cd, .slice As ss.length cs, .slice none 0 0, .int .i64 0, .int .i64 0, .int .i64 0] (0, 0) _ rfl (by (with_reducible repeat (first | refine blk_drewN ?_ _ | refine blk_drew ?_ | refine blk_alloc ?_ _)); refine blk_put (cs := #[.int .i64 2, .int .i64 ver, .slice Ad dd.length cd, .slice As ss.length cs, .slice none 0 0, .int .i64 0, .int .i64 0, .int .i64 0]) ?_ 7 _ rfl; (with_reducible repeat (first | refine blk_drewN ?_ _ | refine blk_drew ?_ | refine blk_alloc ?_ _)); refine blk_put (cs := #[.int .i64 2, .int .i64 ver, .slice Ad dd.length cd, .slice As ss.length cs, .slice none 0 0, .int .i64 0, .int .i64 0, .int .i64 0]) ?_ 6 _ rfl; (with_reducible repeat (first | refine blk_drewN ?_ _ | refine blk_drew ?_ | refine blk_alloc ?_ _)); refine blk_put (cs := #[.int .i64 2, .int .i64 ver, .slice Ad dd.length cd, .slice As ss.length cs, .slice none 0 0, .int .i64 0, .int .i64 0, .int .i64 0]) ?_ 5 _ rfl; (with_reducible repeat (first | refine blk_drewN ?_ _ | refine blk_drew ?_ | refine blk_alloc ?_ _)); refine blk_put (cs := #[.int .i64 2, .int .i64 ver, .slice Ad dd.length cd, .slice As ss.length cs, .slice none 0 0, .int .i64 0, .int .i64 0, .int .i64 0]) ?_ 4 _ rfl; (with_reducible repeat (first | refine blk_drewN ?_ _ | refine blk_drew ?_ | refine blk_alloc ?_ _)); refine blk_put (cs := #[.int .i64 2, .int .i64 ver, .slice Ad dd.length cd, .slice none 0 0, .slice none 0 0, .int .i64 0, .int .i64 0, .int .i64 0]) ?_ 3 _ rfl; (with_reducible repeat (first | refine blk_drewN ?_ _ | refine blk_drew ?_ | refine blk_alloc ?_ _)); refine blk_put (cs := #[.int .i64 2, .int .i64 ver, .slice none 0 0, .slice none 0 0, .slice none 0 0, .int .i64 0, .int .i64 0, .int .i64 0]) ?_ 2 _ rfl; (with_reducible repeat (first | refine blk_drewN ?_ _ | refine blk_drew ?_ | refine blk_alloc ?_ _)); refine blk_put (cs := #[.int .i64 2, .int .i64 0, .slice none 0 0, .slice none 0 0, .slice none 0 0, .int .i64 0, .int .i64 0, .int .i64 0]) ?_ 1 _ rfl; (with_reducible repeat (first | refine blk_drewN ?_ _ | refine blk_drew ?_ | refine blk_alloc ?_ _)); refine blk_put (cs := #[.int .i64 0, .int .i64 0, .slice none 0 0, .slice none 0 0, .slice none 0 0, .int .i64 0, .int .i64 0, .int .i64 0]) ?_ 0 _ rfl; (with_reducible repeat (first | refine blk_drewN ?_ _ | refine blk_drew ?_ | refine blk_alloc ?_ _)); exact HS.out.z.r) Try.underlying33 rfl (by kernel_rfl)) rfl ?_)
                                    all_goals (exact ⟨⟨ver, Ad, cd, As, cs, none, 0, 0, _, rfl⟩, (by (with_reducible repeat (first | exact HS.out.z.b | refine below_set ?_ HS.out.z.gr_ | apply below_alloc | apply pw_below_drewN | apply below_drew1)); first | done | exact HS.out.z.b)⟩)


end Go.Proofs.Ytkomkkpjflmlnaa.PFnExactReadVersions
