-- Written by a program of this repo (xprint.py) out of the translation; Lean checks it.
import Derived.Test.YtkcimmlaoipdkaaDoorPFnPriorityx0
import Derived.Test.YtkcimmlaoipdkaaDoorPFnPriorityx3
namespace Go.Proofs.YtkcimmlaoipdkaaDoor.PFnPriority
open Go.RowKit Go.Proofs.YtkcimmlaoipdkaaDoorW.PrintWords Go.Proofs.YtkcimmlaoipdkaaDoorW.PrintLast Go.Proofs.YtkcimmlaoipdkaaDoorW.PrintMore
attribute [local go_sem] max2_int min2_int max_two min_two max_three min_three max_four min_four   -- for this text's walks alone
set_option linter.unusedVariables false
set_option linter.unusedSimpArgs false

/-! ### spec_DrawReadPriority: function 15 -/
theorem wrapIn (a b : Int) : wrap64 (a + b) = wrap64 (wrap64 a + b) := by unfold wrap64; omega
def spec_DrawReadPriority.l0 : Nat → ByteArray → Int → List Int → Int → Int → Option (ByteArray)
  | 0, _, _, _, _, _ => none
  | k + 1, x4, x5, x126000, x126001, x126002 => if x5 > 0 then ((some (([(⟨#[]⟩ : ByteArray), (⟨#[32]⟩ : ByteArray), (⟨#[32, 32]⟩ : ByteArray)] : List ByteArray) : List ByteArray)).bind fun y129 => ((spec_l01Src_next.f x126000 x126001 x126002 3).bind fun bt132 => (if 0 ≤ bt132.1 then (if bt132.1 < (y129.length : Int) then (if x4.size + (rdOf ByteArray.empty y129 bt132.1).size ≤ 9223372036854775807 then ((some (([(⟨#[117, 61, 48]⟩ : ByteArray), (⟨#[117, 61, 55]⟩ : ByteArray), (⟨#[117, 61, 56]⟩ : ByteArray), (⟨#[117, 61]⟩ : ByteArray), (⟨#[117, 61, 51, 51]⟩ : ByteArray), (⟨#[105]⟩ : ByteArray), (⟨#[105, 61, 63, 49]⟩ : ByteArray), (⟨#[105, 61, 63, 48]⟩ : ByteArray), (⟨#[105, 61, 49]⟩ : ByteArray), (⟨#[120, 61, 53]⟩ : ByteArray), (⟨#[85, 61, 49]⟩ : ByteArray), (⟨#[117, 32, 61, 49]⟩ : ByteArray)] : List ByteArray) : List ByteArray)).bind fun y136 => ((spec_l01Src_next.f x126000 bt132.2.1 bt132.2.2 12).bind fun bt139 => (if 0 ≤ bt139.1 then (if bt139.1 < (y136.length : Int) then (if (x4 ++ (rdOf ByteArray.empty y129 bt132.1)).size + (rdOf ByteArray.empty y136 bt139.1).size ≤ 9223372036854775807 then ((some (([(⟨#[]⟩ : ByteArray), (⟨#[32]⟩ : ByteArray)] : List ByteArray) : List ByteArray)).bind fun y143 => ((spec_l01Src_next.f x126000 bt139.2.1 bt139.2.2 2).bind fun bt146 => (if 0 ≤ bt146.1 then (if bt146.1 < (y143.length : Int) then (if ((x4 ++ (rdOf ByteArray.empty y129 bt132.1)) ++ (rdOf ByteArray.empty y136 bt139.1)).size + (rdOf ByteArray.empty y143 bt146.1).size ≤ 9223372036854775807 then (if x5 > 1 then (if (((x4 ++ (rdOf ByteArray.empty y129 bt132.1)) ++ (rdOf ByteArray.empty y136 bt139.1)) ++ (rdOf ByteArray.empty y143 bt146.1)).size + 1 ≤ 9223372036854775807 then (spec_DrawReadPriority.l0 k ((((x4 ++ (rdOf ByteArray.empty y129 bt132.1)) ++ (rdOf ByteArray.empty y136 bt139.1)) ++ (rdOf ByteArray.empty y143 bt146.1)) ++ (⟨#[44]⟩ : ByteArray)) (wrap64 (x5 - 1)) x126000 bt146.2.1 bt146.2.2) else (none)) else ((spec_l01Src_chance.f x126000 bt146.2.1 bt146.2.2 4).bind fun bt150 => (if bt150.1 = true then (if (((x4 ++ (rdOf ByteArray.empty y129 bt132.1)) ++ (rdOf ByteArray.empty y136 bt139.1)) ++ (rdOf ByteArray.empty y143 bt146.1)).size + 1 ≤ 9223372036854775807 then (spec_DrawReadPriority.l0 k ((((x4 ++ (rdOf ByteArray.empty y129 bt132.1)) ++ (rdOf ByteArray.empty y136 bt139.1)) ++ (rdOf ByteArray.empty y143 bt146.1)) ++ (⟨#[44]⟩ : ByteArray)) (wrap64 (x5 - 1)) x126000 bt150.2.1 bt150.2.2) else (none)) else (spec_DrawReadPriority.l0 k (((x4 ++ (rdOf ByteArray.empty y129 bt132.1)) ++ (rdOf ByteArray.empty y136 bt139.1)) ++ (rdOf ByteArray.empty y143 bt146.1)) (wrap64 (x5 - 1)) x126000 bt150.2.1 bt150.2.2)))) else (none)) else (none)) else (none)))) else (none)) else (none)) else (none)))) else (none)) else (none)) else (none)))) else ((spec_l01Src_chance.f x126000 x126001 x126002 40).bind fun bt153 => (if bt153.1 = true then (if x4.size + 5 ≤ 9223372036854775807 then ((spec_l01Src_next.f x126000 bt153.2.1 bt153.2.2 2).bind fun bt156 => ((spec_l07Fill.f k 32 (wrap64 ((wrap64 (1019 - (x4.size : Int))) + bt156.1))).bind fun t159 => (if (x4 ++ (⟨#[44, 32, 117, 61, 49]⟩ : ByteArray)).size + (strOfNums t159).size ≤ 9223372036854775807 then (some ((x4 ++ (⟨#[44, 32, 117, 61, 49]⟩ : ByteArray)) ++ (strOfNums t159))) else (none)))) else (none)) else (some x4)))
def spec_DrawReadPriority.f (k : Nat) (l0 : List Int) : Option (ByteArray) := (spec_l01Source.f l0).bind fun bt122 => ((spec_l01Src_next.f bt122.1 bt122.2.1 bt122.2.2 6).bind fun bt126 => (spec_DrawReadPriority.l0 k (⟨#[]⟩ : ByteArray) bt126.1 bt122.1 bt126.2.1 bt126.2.2))
theorem spec_DrawReadPriority.mono_l : ∀ k, (∀ y0 y1 y2 y3 y4, LeO (spec_DrawReadPriority.l0 k y0 y1 y2 y3 y4) (spec_DrawReadPriority.l0 (k + 1) y0 y1 y2 y3 y4))
  | 0 => fun _ _ _ _ _ r h => by simp [spec_DrawReadPriority.l0] at h
  | k + 1 => by
    have ih0 := spec_DrawReadPriority.mono_l k
    · intro y0 y1 y2 y3 y4
      unfold spec_DrawReadPriority.l0
      repeat' first
      | (with_reducible exact ih0 _ _ _ _ _)
      | (with_reducible exact spec_l07Fill.mono _ _ _)
      | (with_reducible exact LeO.refl _)
      | (with_reducible exact LeO.none _)
      | (with_reducible refine LeO.ite ?_ ?_)
      | (with_reducible refine LeO.bind ?_ (fun _ => ?_))
      | exact ih0 _ _ _ _ _
      | exact spec_l07Fill.mono _ _ _
      | exact LeO.none _
      | refine LeO.ite ?_ ?_
      | refine LeO.bind ?_ (fun _ => ?_)
theorem spec_DrawReadPriority.mono : ∀ a0 k, LeO (spec_DrawReadPriority.f k a0) (spec_DrawReadPriority.f (k + 1) a0) := by
  intro a0 k
  have ih0 := spec_DrawReadPriority.mono_l k
  unfold spec_DrawReadPriority.f
  repeat' first
      | (with_reducible exact ih0 _ _ _ _ _)
      | (with_reducible exact spec_l07Fill.mono _ _ _)
      | (with_reducible exact LeO.refl _)
      | (with_reducible exact LeO.none _)
      | (with_reducible refine LeO.ite ?_ ?_)
      | (with_reducible refine LeO.bind ?_ (fun _ => ?_))
      | exact ih0 _ _ _ _ _
      | exact spec_l07Fill.mono _ _ _
      | exact LeO.none _
      | refine LeO.ite ?_ ?_
      | refine LeO.bind ?_ (fun _ => ?_)
def spec_DrawReadPriority.T6 : Bool × List (List Nat × List Nat) := (true, [([], []), ([], []), ([], []), ([2], [2]), ([1, 3], [1, 3]), ([4], [4]), ([0, 5], [0, 5]), ([], []), ([], []), ([8, 3], [8]), ([7, 9], [7, 9]), ([10], [10]), ([6, 11], [6, 11]), ([], []), ([], []), ([14, 9], [14]), ([13, 15], [13, 15]), ([16], [16]), ([12, 17], [12, 17]), ([18, 15, 0, 1, 2, 3, 4, 5, 6, 7, 8, 9, 10, 11, 12, 13, 14, 15, 16, 17, 18], [0, 18])])
def spec_DrawReadPriority.B6 : List Nat := [0, 0, 0, 4, 14, 30, 63, 0, 0, 268, 908, 1932, 4095, 0, 0, 17164, 58124, 123660, 262143, 524287]
theorem spec_DrawReadPriority.tab6 : rtab .any (opsOf Tryd.f15 6) = spec_DrawReadPriority.T6 := by kernel_rfl
theorem spec_DrawReadPriority.bits6 : waitsOk spec_DrawReadPriority.T6.2 spec_DrawReadPriority.B6 = true := by kernel_rfl
set_option maxHeartbeats 8000000 in
set_option maxRecDepth 100000 in
theorem spec_DrawReadPriority.calls (k : Nat) (A0 : Option Addr) (c0 : Nat) (l0 : List Int) (r : ByteArray) (w : World) (hr0 : Kd.C (Kd.int .u8) w A0 l0.length l0) (hc0 : l0.length ≤ c0) (h : spec_DrawReadPriority.f k l0 = some r) :
    Calls Tryd.prog 15 #[.slice A0 l0.length c0] w fun e w' => e = .returned (.string r) ∧ Below w.heap.size w w' := by
  have HR0 := Aside0.mk hr0
  have HC0 := Aside0.mk hc0
  clear hr0 hc0
  have HB := Aside0.mk (Below.refl w.heap.size w)
  have H : ((spec_l01Source.f l0).bind fun bt122 => ((spec_l01Src_next.f bt122.1 bt122.2.1 bt122.2.2 6).bind fun bt126 => (spec_DrawReadPriority.l0 k (⟨#[]⟩ : ByteArray) bt126.1 bt122.1 bt126.2.1 bt126.2.2))) = some r := h
  clear h
  replace H := Option.bind_eq_some_iff.mp H
  obtain ⟨⟨t122, t123, t124⟩, A20, H⟩ := H
  replace H : ((spec_l01Src_next.f t122 t123 t124 6).bind fun bt126 => (spec_DrawReadPriority.l0 k (⟨#[]⟩ : ByteArray) bt126.1 t122 bt126.2.1 bt126.2.2)) = some r := H
  have A2 := Aside0.mk A20
  clear A20
  replace H := Option.bind_eq_some_iff.mp H
  obtain ⟨⟨t126, t127, t128⟩, A30, H⟩ := H
  replace H : (spec_DrawReadPriority.l0 k (⟨#[]⟩ : ByteArray) t126 t122 t127 t128) = some r := H
  have A3 := Aside0.mk A30
  clear A30
  have H' := Aside0.mk H
  clear H
  go_enter Tryd.func15, Tryd.ntmps15
  go_wp2_with (first | ((with_reducible refine gate_callee (f := 44) rfl ?_); refine goesL_ (some 7) rfl rfl Tryd.func44 (by kernel_rfl) rfl #[.slice A0 l0.length c0] rfl (by (try simp only [List.map_toArray, List.map_cons, List.map_nil]); first | done | rfl | (simp only [List.length_drop, List.length_take]; rfl)) ?_; (with_reducible refine (spec_l01Source.calls _ _ l0 t122 t123 t124 w _ ?side1 ?side2 ?side3 A2.out).mono ?_); (case side1 => repeat (first | (with_reducible first | exact HB.out | apply below_alloc | apply pw_below_drewN | apply below_drew1) | exact HB.out)); (case side2 => exact HR0.out); (case side3 => exact HC0.out); rintro e w4 ⟨g125, rfl, hi, hb, hb2⟩; refine ⟨_, rfl, ?_⟩; have n0_ := Aside0.mk (hb); have n1_ := Aside0.mk (hi); clear HB; have HB := n0_; have HI125 := n1_; clear n0_ n1_; (try clear hb); (try clear hb2); (try clear hk); (try clear hi)) | ((with_reducible refine gate_callee (f := 45) rfl ?_); refine goesL_ (some 9) rfl rfl Tryd.func45 (by kernel_rfl) rfl #[.pointer (some ⟨g125, 0, none⟩), .int .i64 6] rfl (by (try simp only [List.map_toArray, List.map_cons, List.map_nil]); first | done | rfl | (simp only [List.length_drop, List.length_take]; rfl)) ?_; (with_reducible refine (spec_l01Src_next.calls g125 t122 t123 t124 6 t126 t127 t128 w _ ?side1 ?side2 A3.out).mono ?_); (case side1 => repeat (first | (with_reducible first | exact HI125.out | apply IsS102.alloc | apply IsS102.drewN | apply IsS102.drew | apply IsS102.set_1 | apply IsS102.set_2) | exact HI125.out)); (case side2 => repeat (first | (with_reducible first | exact HB.out | apply below_alloc | apply pw_below_drewN | apply below_drew1 | refine below_set ?_ (IsS102.ge HI125.out)) | exact HB.out)); rintro e w5 ⟨rfl, hi, hb, hk⟩; refine ⟨_, rfl, ?_⟩; have n0_ := Aside0.mk (hb); have n1_ := Aside0.mk (hi); clear HB; clear HI125; have HB := n0_; have HI125 := n1_; clear n0_ n1_; (try clear hb); (try clear hb2); (try clear hk); (try clear hi)))
  go_loopg [4, 5] k (fun kq v4 v5 w' => ∃ (x4_1 : ByteArray) (x5_1 : Int) (x126001_1 : Int) (x126002_1 : Int), v4 = .string x4_1 ∧ v5 = .int .i64 x5_1 ∧ Aside0 (spec_DrawReadPriority.l0 kq x4_1 x5_1 t122 x126001_1 x126002_1 = some r) ∧ Aside0 (kq ≤ k) ∧ Aside0 (IsS102 w w' g125 t122 x126001_1 x126002_1) ∧ Aside0 (Below w.heap.size w w'))
  case atStart => exact ⟨((⟨#[]⟩ : ByteArray)), (t126), (t127), (t128), (by first | rfl | (simp; done) | (simp [*]; done)), (by first | rfl | (simp; done) | (simp [*]; done)), H', ⟨Nat.le_refl _⟩, ⟨by repeat (first | (with_reducible first | exact HI125.out | apply IsS102.alloc | apply IsS102.drewN | apply IsS102.drew | apply IsS102.set_1 | apply IsS102.set_2) | exact HI125.out)⟩, ⟨by repeat (first | (with_reducible first | exact HB.out | apply below_alloc | apply pw_below_drewN | apply below_drew1 | refine below_set ?_ (IsS102.ge HI125.out)) | exact HB.out)⟩⟩
  case round =>
    clear H'
    try clear c1
    try clear p2
    try clear c4
    obtain ⟨x4_1, x5_1, x126001_1, x126002_1, rfl, rfl, HA, HK1, HI125, HB⟩ := hrel
    cases gk with
    | zero => exact absurd HA.out (by simp [spec_DrawReadPriority.l0])
    | succ k1 =>
      have H := HA.out
      clear HA
      simp only [spec_DrawReadPriority.l0] at H
      by_cases c6 : x5_1 > 0
      · rw [if_pos c6] at H
        have c6b0 : decide (0 < x5_1) = true := decide_eq_true c6
        clear c6
        obtain ⟨y129, hy129⟩ : ∃ y_ : List ByteArray, y_ = (([(⟨#[]⟩ : ByteArray), (⟨#[32]⟩ : ByteArray), (⟨#[32, 32]⟩ : ByteArray)] : List ByteArray)) := ⟨_, rfl⟩
        replace H : ((spec_l01Src_next.f t122 x126001_1 x126002_1 3).bind fun bt132 => (if 0 ≤ bt132.1 then (if bt132.1 < (y129.length : Int) then (if x4_1.size + (rdOf ByteArray.empty y129 bt132.1).size ≤ 9223372036854775807 then ((some (([(⟨#[117, 61, 48]⟩ : ByteArray), (⟨#[117, 61, 55]⟩ : ByteArray), (⟨#[117, 61, 56]⟩ : ByteArray), (⟨#[117, 61]⟩ : ByteArray), (⟨#[117, 61, 51, 51]⟩ : ByteArray), (⟨#[105]⟩ : ByteArray), (⟨#[105, 61, 63, 49]⟩ : ByteArray), (⟨#[105, 61, 63, 48]⟩ : ByteArray), (⟨#[105, 61, 49]⟩ : ByteArray), (⟨#[120, 61, 53]⟩ : ByteArray), (⟨#[85, 61, 49]⟩ : ByteArray), (⟨#[117, 32, 61, 49]⟩ : ByteArray)] : List ByteArray) : List ByteArray)).bind fun y136 => ((spec_l01Src_next.f t122 bt132.2.1 bt132.2.2 12).bind fun bt139 => (if 0 ≤ bt139.1 then (if bt139.1 < (y136.length : Int) then (if (x4_1 ++ (rdOf ByteArray.empty y129 bt132.1)).size + (rdOf ByteArray.empty y136 bt139.1).size ≤ 9223372036854775807 then ((some (([(⟨#[]⟩ : ByteArray), (⟨#[32]⟩ : ByteArray)] : List ByteArray) : List ByteArray)).bind fun y143 => ((spec_l01Src_next.f t122 bt139.2.1 bt139.2.2 2).bind fun bt146 => (if 0 ≤ bt146.1 then (if bt146.1 < (y143.length : Int) then (if ((x4_1 ++ (rdOf ByteArray.empty y129 bt132.1)) ++ (rdOf ByteArray.empty y136 bt139.1)).size + (rdOf ByteArray.empty y143 bt146.1).size ≤ 9223372036854775807 then (if x5_1 > 1 then (if (((x4_1 ++ (rdOf ByteArray.empty y129 bt132.1)) ++ (rdOf ByteArray.empty y136 bt139.1)) ++ (rdOf ByteArray.empty y143 bt146.1)).size + 1 ≤ 9223372036854775807 then (spec_DrawReadPriority.l0 k1 ((((x4_1 ++ (rdOf ByteArray.empty y129 bt132.1)) ++ (rdOf ByteArray.empty y136 bt139.1)) ++ (rdOf ByteArray.empty y143 bt146.1)) ++ (⟨#[44]⟩ : ByteArray)) (wrap64 (x5_1 - 1)) t122 bt146.2.1 bt146.2.2) else (none)) else ((spec_l01Src_chance.f t122 bt146.2.1 bt146.2.2 4).bind fun bt150 => (if bt150.1 = true then (if (((x4_1 ++ (rdOf ByteArray.empty y129 bt132.1)) ++ (rdOf ByteArray.empty y136 bt139.1)) ++ (rdOf ByteArray.empty y143 bt146.1)).size + 1 ≤ 9223372036854775807 then (spec_DrawReadPriority.l0 k1 ((((x4_1 ++ (rdOf ByteArray.empty y129 bt132.1)) ++ (rdOf ByteArray.empty y136 bt139.1)) ++ (rdOf ByteArray.empty y143 bt146.1)) ++ (⟨#[44]⟩ : ByteArray)) (wrap64 (x5_1 - 1)) t122 bt150.2.1 bt150.2.2) else (none)) else (spec_DrawReadPriority.l0 k1 (((x4_1 ++ (rdOf ByteArray.empty y129 bt132.1)) ++ (rdOf ByteArray.empty y136 bt139.1)) ++ (rdOf ByteArray.empty y143 bt146.1)) (wrap64 (x5_1 - 1)) t122 bt150.2.1 bt150.2.2)))) else (none)) else (none)) else (none)))) else (none)) else (none)) else (none)))) else (none)) else (none)) else (none))) = some r := by first | (rw [hy129]; with_reducible exact H) | (have H2_ := (Option.bind_some _ _).symm.trans H; rw [hy129]; with_reducible exact H2_) | (have H2_ := (Option.bind_some _ _).symm.trans H; with_reducible exact H2_) | with_reducible exact H | (rw [hy129]; exact H) | exact H
        have Ny129 := Aside0.mk hy129
        clear hy129
        replace H := Option.bind_eq_some_iff.mp H
        obtain ⟨⟨t132, t133, t134⟩, A70, H⟩ := H
        replace H : (if 0 ≤ t132 then (if t132 < (y129.length : Int) then (if x4_1.size + (rdOf ByteArray.empty y129 t132).size ≤ 9223372036854775807 then ((some (([(⟨#[117, 61, 48]⟩ : ByteArray), (⟨#[117, 61, 55]⟩ : ByteArray), (⟨#[117, 61, 56]⟩ : ByteArray), (⟨#[117, 61]⟩ : ByteArray), (⟨#[117, 61, 51, 51]⟩ : ByteArray), (⟨#[105]⟩ : ByteArray), (⟨#[105, 61, 63, 49]⟩ : ByteArray), (⟨#[105, 61, 63, 48]⟩ : ByteArray), (⟨#[105, 61, 49]⟩ : ByteArray), (⟨#[120, 61, 53]⟩ : ByteArray), (⟨#[85, 61, 49]⟩ : ByteArray), (⟨#[117, 32, 61, 49]⟩ : ByteArray)] : List ByteArray) : List ByteArray)).bind fun y136 => ((spec_l01Src_next.f t122 t133 t134 12).bind fun bt139 => (if 0 ≤ bt139.1 then (if bt139.1 < (y136.length : Int) then (if (x4_1 ++ (rdOf ByteArray.empty y129 t132)).size + (rdOf ByteArray.empty y136 bt139.1).size ≤ 9223372036854775807 then ((some (([(⟨#[]⟩ : ByteArray), (⟨#[32]⟩ : ByteArray)] : List ByteArray) : List ByteArray)).bind fun y143 => ((spec_l01Src_next.f t122 bt139.2.1 bt139.2.2 2).bind fun bt146 => (if 0 ≤ bt146.1 then (if bt146.1 < (y143.length : Int) then (if ((x4_1 ++ (rdOf ByteArray.empty y129 t132)) ++ (rdOf ByteArray.empty y136 bt139.1)).size + (rdOf ByteArray.empty y143 bt146.1).size ≤ 9223372036854775807 then (if x5_1 > 1 then (if (((x4_1 ++ (rdOf ByteArray.empty y129 t132)) ++ (rdOf ByteArray.empty y136 bt139.1)) ++ (rdOf ByteArray.empty y143 bt146.1)).size + 1 ≤ 9223372036854775807 then (spec_DrawReadPriority.l0 k1 ((((x4_1 ++ (rdOf ByteArray.empty y129 t132)) ++ (rdOf ByteArray.empty y136 bt139.1)) ++ (rdOf ByteArray.empty y143 bt146.1)) ++ (⟨#[44]⟩ : ByteArray)) (wrap64 (x5_1 - 1)) t122 bt146.2.1 bt146.2.2) else (none)) else ((spec_l01Src_chance.f t122 bt146.2.1 bt146.2.2 4).bind fun bt150 => (if bt150.1 = true then (if (((x4_1 ++ (rdOf ByteArray.empty y129 t132)) ++ (rdOf ByteArray.empty y136 bt139.1)) ++ (rdOf ByteArray.empty y143 bt146.1)).size + 1 ≤ 9223372036854775807 then (spec_DrawReadPriority.l0 k1 ((((x4_1 ++ (rdOf ByteArray.empty y129 t132)) ++ (rdOf ByteArray.empty y136 bt139.1)) ++ (rdOf ByteArray.empty y143 bt146.1)) ++ (⟨#[44]⟩ : ByteArray)) (wrap64 (x5_1 - 1)) t122 bt150.2.1 bt150.2.2) else (none)) else (spec_DrawReadPriority.l0 k1 (((x4_1 ++ (rdOf ByteArray.empty y129 t132)) ++ (rdOf ByteArray.empty y136 bt139.1)) ++ (rdOf ByteArray.empty y143 bt146.1)) (wrap64 (x5_1 - 1)) t122 bt150.2.1 bt150.2.2)))) else (none)) else (none)) else (none)))) else (none)) else (none)) else (none)))) else (none)) else (none)) else (none)) = some r := H
        have A7 := Aside0.mk A70
        clear A70
        by_cases c8 : 0 ≤ t132
        · rw [if_pos c8] at H
          have c8b0 : decide (0 ≤ t132) = true := decide_eq_true c8
          clear c8
          by_cases c9 : t132 < (y129.length : Int)
          · rw [if_pos c9] at H
            have c9b0 : decide (t132 < (y129.length : Int)) = true := decide_eq_true c9
            clear c9
            by_cases c10 : x4_1.size + (rdOf ByteArray.empty y129 t132).size ≤ 9223372036854775807
            · rw [if_pos c10] at H
              have c10b0 := eq_true c10
              (try have c10b3 := (by have z_ := c10; simp only [ByteArray.size_append] at z_; exact eq_true z_))
              (try have c10b4 := (by have z_ := Nat.not_lt.2 c10; simp only [ByteArray.size_append] at z_; exact eq_false z_))
              have c10b1 : decide (x4_1.size + (rdOf ByteArray.empty y129 t132).size ≤ 9223372036854775807) = true := decide_eq_true c10
              try have c10b2 : (9223372036854775807 < x4_1.size + (rdOf ByteArray.empty y129 t132).size) = False := eq_false (Nat.not_lt.2 c10)
              obtain ⟨y136, hy136⟩ : ∃ y_ : List ByteArray, y_ = (([(⟨#[117, 61, 48]⟩ : ByteArray), (⟨#[117, 61, 55]⟩ : ByteArray), (⟨#[117, 61, 56]⟩ : ByteArray), (⟨#[117, 61]⟩ : ByteArray), (⟨#[117, 61, 51, 51]⟩ : ByteArray), (⟨#[105]⟩ : ByteArray), (⟨#[105, 61, 63, 49]⟩ : ByteArray), (⟨#[105, 61, 63, 48]⟩ : ByteArray), (⟨#[105, 61, 49]⟩ : ByteArray), (⟨#[120, 61, 53]⟩ : ByteArray), (⟨#[85, 61, 49]⟩ : ByteArray), (⟨#[117, 32, 61, 49]⟩ : ByteArray)] : List ByteArray)) := ⟨_, rfl⟩
              replace H : ((spec_l01Src_next.f t122 t133 t134 12).bind fun bt139 => (if 0 ≤ bt139.1 then (if bt139.1 < (y136.length : Int) then (if (x4_1 ++ (rdOf ByteArray.empty y129 t132)).size + (rdOf ByteArray.empty y136 bt139.1).size ≤ 9223372036854775807 then ((some (([(⟨#[]⟩ : ByteArray), (⟨#[32]⟩ : ByteArray)] : List ByteArray) : List ByteArray)).bind fun y143 => ((spec_l01Src_next.f t122 bt139.2.1 bt139.2.2 2).bind fun bt146 => (if 0 ≤ bt146.1 then (if bt146.1 < (y143.length : Int) then (if ((x4_1 ++ (rdOf ByteArray.empty y129 t132)) ++ (rdOf ByteArray.empty y136 bt139.1)).size + (rdOf ByteArray.empty y143 bt146.1).size ≤ 9223372036854775807 then (if x5_1 > 1 then (if (((x4_1 ++ (rdOf ByteArray.empty y129 t132)) ++ (rdOf ByteArray.empty y136 bt139.1)) ++ (rdOf ByteArray.empty y143 bt146.1)).size + 1 ≤ 9223372036854775807 then (spec_DrawReadPriority.l0 k1 ((((x4_1 ++ (rdOf ByteArray.empty y129 t132)) ++ (rdOf ByteArray.empty y136 bt139.1)) ++ (rdOf ByteArray.empty y143 bt146.1)) ++ (⟨#[44]⟩ : ByteArray)) (wrap64 (x5_1 - 1)) t122 bt146.2.1 bt146.2.2) else (none)) else ((spec_l01Src_chance.f t122 bt146.2.1 bt146.2.2 4).bind fun bt150 => (if bt150.1 = true then (if (((x4_1 ++ (rdOf ByteArray.empty y129 t132)) ++ (rdOf ByteArray.empty y136 bt139.1)) ++ (rdOf ByteArray.empty y143 bt146.1)).size + 1 ≤ 9223372036854775807 then (spec_DrawReadPriority.l0 k1 ((((x4_1 ++ (rdOf ByteArray.empty y129 t132)) ++ (rdOf ByteArray.empty y136 bt139.1)) ++ (rdOf ByteArray.empty y143 bt146.1)) ++ (⟨#[44]⟩ : ByteArray)) (wrap64 (x5_1 - 1)) t122 bt150.2.1 bt150.2.2) else (none)) else (spec_DrawReadPriority.l0 k1 (((x4_1 ++ (rdOf ByteArray.empty y129 t132)) ++ (rdOf ByteArray.empty y136 bt139.1)) ++ (rdOf ByteArray.empty y143 bt146.1)) (wrap64 (x5_1 - 1)) t122 bt150.2.1 bt150.2.2)))) else (none)) else (none)) else (none)))) else (none)) else (none)) else (none))) = some r := by first | (rw [hy136]; with_reducible exact H) | (have H2_ := (Option.bind_some _ _).symm.trans H; rw [hy136]; with_reducible exact H2_) | (have H2_ := (Option.bind_some _ _).symm.trans H; with_reducible exact H2_) | with_reducible exact H | (rw [hy136]; exact H) | exact H
              have Ny136 := Aside0.mk hy136
              clear hy136
              replace H := Option.bind_eq_some_iff.mp H
              obtain ⟨⟨t139, t140, t141⟩, A110, H⟩ := H
              replace H : (if 0 ≤ t139 then (if t139 < (y136.length : Int) then (if (x4_1 ++ (rdOf ByteArray.empty y129 t132)).size + (rdOf ByteArray.empty y136 t139).size ≤ 9223372036854775807 then ((some (([(⟨#[]⟩ : ByteArray), (⟨#[32]⟩ : ByteArray)] : List ByteArray) : List ByteArray)).bind fun y143 => ((spec_l01Src_next.f t122 t140 t141 2).bind fun bt146 => (if 0 ≤ bt146.1 then (if bt146.1 < (y143.length : Int) then (if ((x4_1 ++ (rdOf ByteArray.empty y129 t132)) ++ (rdOf ByteArray.empty y136 t139)).size + (rdOf ByteArray.empty y143 bt146.1).size ≤ 9223372036854775807 then (if x5_1 > 1 then (if (((x4_1 ++ (rdOf ByteArray.empty y129 t132)) ++ (rdOf ByteArray.empty y136 t139)) ++ (rdOf ByteArray.empty y143 bt146.1)).size + 1 ≤ 9223372036854775807 then (spec_DrawReadPriority.l0 k1 ((((x4_1 ++ (rdOf ByteArray.empty y129 t132)) ++ (rdOf ByteArray.empty y136 t139)) ++ (rdOf ByteArray.empty y143 bt146.1)) ++ (⟨#[44]⟩ : ByteArray)) (wrap64 (x5_1 - 1)) t122 bt146.2.1 bt146.2.2) else (none)) else ((spec_l01Src_chance.f t122 bt146.2.1 bt146.2.2 4).bind fun bt150 => (if bt150.1 = true then (if (((x4_1 ++ (rdOf ByteArray.empty y129 t132)) ++ (rdOf ByteArray.empty y136 t139)) ++ (rdOf ByteArray.empty y143 bt146.1)).size + 1 ≤ 9223372036854775807 then (spec_DrawReadPriority.l0 k1 ((((x4_1 ++ (rdOf ByteArray.empty y129 t132)) ++ (rdOf ByteArray.empty y136 t139)) ++ (rdOf ByteArray.empty y143 bt146.1)) ++ (⟨#[44]⟩ : ByteArray)) (wrap64 (x5_1 - 1)) t122 bt150.2.1 bt150.2.2) else (none)) else (spec_DrawReadPriority.l0 k1 (((x4_1 ++ (rdOf ByteArray.empty y129 t132)) ++ (rdOf ByteArray.empty y136 t139)) ++ (rdOf ByteArray.empty y143 bt146.1)) (wrap64 (x5_1 - 1)) t122 bt150.2.1 bt150.2.2)))) else (none)) else (none)) else (none)))) else (none)) else (none)) else (none)) = some r := H
              have A11 := Aside0.mk A110
              clear A110
              by_cases c12 : 0 ≤ t139
              · rw [if_pos c12] at H
                have c12b0 : decide (0 ≤ t139) = true := decide_eq_true c12
                clear c12
                by_cases c13 : t139 < (y136.length : Int)
                · rw [if_pos c13] at H
                  have c13b0 : decide (t139 < (y136.length : Int)) = true := decide_eq_true c13
                  clear c13
                  by_cases c14 : (x4_1 ++ (rdOf ByteArray.empty y129 t132)).size + (rdOf ByteArray.empty y136 t139).size ≤ 9223372036854775807
                  · rw [if_pos c14] at H
                    have c14b0 := eq_true c14
                    (try have c14b3 := (by have z_ := c14; simp only [ByteArray.size_append] at z_; exact eq_true z_))
                    (try have c14b4 := (by have z_ := Nat.not_lt.2 c14; simp only [ByteArray.size_append] at z_; exact eq_false z_))
                    have c14b1 : decide ((x4_1 ++ (rdOf ByteArray.empty y129 t132)).size + (rdOf ByteArray.empty y136 t139).size ≤ 9223372036854775807) = true := decide_eq_true c14
                    try have c14b2 : (9223372036854775807 < (x4_1 ++ (rdOf ByteArray.empty y129 t132)).size + (rdOf ByteArray.empty y136 t139).size) = False := eq_false (Nat.not_lt.2 c14)
                    obtain ⟨y143, hy143⟩ : ∃ y_ : List ByteArray, y_ = (([(⟨#[]⟩ : ByteArray), (⟨#[32]⟩ : ByteArray)] : List ByteArray)) := ⟨_, rfl⟩
                    replace H : ((spec_l01Src_next.f t122 t140 t141 2).bind fun bt146 => (if 0 ≤ bt146.1 then (if bt146.1 < (y143.length : Int) then (if ((x4_1 ++ (rdOf ByteArray.empty y129 t132)) ++ (rdOf ByteArray.empty y136 t139)).size + (rdOf ByteArray.empty y143 bt146.1).size ≤ 9223372036854775807 then (if x5_1 > 1 then (if (((x4_1 ++ (rdOf ByteArray.empty y129 t132)) ++ (rdOf ByteArray.empty y136 t139)) ++ (rdOf ByteArray.empty y143 bt146.1)).size + 1 ≤ 9223372036854775807 then (spec_DrawReadPriority.l0 k1 ((((x4_1 ++ (rdOf ByteArray.empty y129 t132)) ++ (rdOf ByteArray.empty y136 t139)) ++ (rdOf ByteArray.empty y143 bt146.1)) ++ (⟨#[44]⟩ : ByteArray)) (wrap64 (x5_1 - 1)) t122 bt146.2.1 bt146.2.2) else (none)) else ((spec_l01Src_chance.f t122 bt146.2.1 bt146.2.2 4).bind fun bt150 => (if bt150.1 = true then (if (((x4_1 ++ (rdOf ByteArray.empty y129 t132)) ++ (rdOf ByteArray.empty y136 t139)) ++ (rdOf ByteArray.empty y143 bt146.1)).size + 1 ≤ 9223372036854775807 then (spec_DrawReadPriority.l0 k1 ((((x4_1 ++ (rdOf ByteArray.empty y129 t132)) ++ (rdOf ByteArray.empty y136 t139)) ++ (rdOf ByteArray.empty y143 bt146.1)) ++ (⟨#[44]⟩ : ByteArray)) (wrap64 (x5_1 - 1)) t122 bt150.2.1 bt150.2.2) else (none)) else (spec_DrawReadPriority.l0 k1 (((x4_1 ++ (rdOf ByteArray.empty y129 t132)) ++ (rdOf ByteArray.empty y136 t139)) ++ (rdOf ByteArray.empty y143 bt146.1)) (wrap64 (x5_1 - 1)) t122 bt150.2.1 bt150.2.2)))) else (none)) else (none)) else (none))) = some r := by first | (rw [hy143]; with_reducible exact H) | (have H2_ := (Option.bind_some _ _).symm.trans H; rw [hy143]; with_reducible exact H2_) | (have H2_ := (Option.bind_some _ _).symm.trans H; with_reducible exact H2_) | with_reducible exact H | (rw [hy143]; exact H) | exact H
                    have Ny143 := Aside0.mk hy143
                    clear hy143
                    replace H := Option.bind_eq_some_iff.mp H
                    obtain ⟨⟨t146, t147, t148⟩, A150, H⟩ := H
                    replace H : (if 0 ≤ t146 then (if t146 < (y143.length : Int) then (if ((x4_1 ++ (rdOf ByteArray.empty y129 t132)) ++ (rdOf ByteArray.empty y136 t139)).size + (rdOf ByteArray.empty y143 t146).size ≤ 9223372036854775807 then (if x5_1 > 1 then (if (((x4_1 ++ (rdOf ByteArray.empty y129 t132)) ++ (rdOf ByteArray.empty y136 t139)) ++ (rdOf ByteArray.empty y143 t146)).size + 1 ≤ 9223372036854775807 then (spec_DrawReadPriority.l0 k1 ((((x4_1 ++ (rdOf ByteArray.empty y129 t132)) ++ (rdOf ByteArray.empty y136 t139)) ++ (rdOf ByteArray.empty y143 t146)) ++ (⟨#[44]⟩ : ByteArray)) (wrap64 (x5_1 - 1)) t122 t147 t148) else (none)) else ((spec_l01Src_chance.f t122 t147 t148 4).bind fun bt150 => (if bt150.1 = true then (if (((x4_1 ++ (rdOf ByteArray.empty y129 t132)) ++ (rdOf ByteArray.empty y136 t139)) ++ (rdOf ByteArray.empty y143 t146)).size + 1 ≤ 9223372036854775807 then (spec_DrawReadPriority.l0 k1 ((((x4_1 ++ (rdOf ByteArray.empty y129 t132)) ++ (rdOf ByteArray.empty y136 t139)) ++ (rdOf ByteArray.empty y143 t146)) ++ (⟨#[44]⟩ : ByteArray)) (wrap64 (x5_1 - 1)) t122 bt150.2.1 bt150.2.2) else (none)) else (spec_DrawReadPriority.l0 k1 (((x4_1 ++ (rdOf ByteArray.empty y129 t132)) ++ (rdOf ByteArray.empty y136 t139)) ++ (rdOf ByteArray.empty y143 t146)) (wrap64 (x5_1 - 1)) t122 bt150.2.1 bt150.2.2)))) else (none)) else (none)) else (none)) = some r := H
                    have A15 := Aside0.mk A150
                    clear A150
                    by_cases c16 : 0 ≤ t146
                    · rw [if_pos c16] at H
                      have c16b0 : decide (0 ≤ t146) = true := decide_eq_true c16
                      clear c16
                      by_cases c17 : t146 < (y143.length : Int)
                      · rw [if_pos c17] at H
                        have c17b0 : decide (t146 < (y143.length : Int)) = true := decide_eq_true c17
                        clear c17
                        by_cases c18 : ((x4_1 ++ (rdOf ByteArray.empty y129 t132)) ++ (rdOf ByteArray.empty y136 t139)).size + (rdOf ByteArray.empty y143 t146).size ≤ 9223372036854775807
                        · rw [if_pos c18] at H
                          have c18b0 := eq_true c18
                          (try have c18b3 := (by have z_ := c18; simp only [ByteArray.size_append] at z_; exact eq_true z_))
                          (try have c18b4 := (by have z_ := Nat.not_lt.2 c18; simp only [ByteArray.size_append] at z_; exact eq_false z_))
                          have c18b1 : decide (((x4_1 ++ (rdOf ByteArray.empty y129 t132)) ++ (rdOf ByteArray.empty y136 t139)).size + (rdOf ByteArray.empty y143 t146).size ≤ 9223372036854775807) = true := decide_eq_true c18
                          try have c18b2 : (9223372036854775807 < ((x4_1 ++ (rdOf ByteArray.empty y129 t132)) ++ (rdOf ByteArray.empty y136 t139)).size + (rdOf ByteArray.empty y143 t146).size) = False := eq_false (Nat.not_lt.2 c18)
                          by_cases c19 : x5_1 > 1
                          · rw [if_pos c19] at H
                            have c19b0 : decide (1 < x5_1) = true := decide_eq_true c19
                            clear c19
                            by_cases c20 : (((x4_1 ++ (rdOf ByteArray.empty y129 t132)) ++ (rdOf ByteArray.empty y136 t139)) ++ (rdOf ByteArray.empty y143 t146)).size + 1 ≤ 9223372036854775807
                            · rw [if_pos c20] at H
                              have c20b0 := eq_true c20
                              (try have c20b3 := (by have z_ := c20; simp only [ByteArray.size_append] at z_; exact eq_true z_))
                              (try have c20b4 := (by have z_ := Nat.not_lt.2 c20; simp only [ByteArray.size_append] at z_; exact eq_false z_))
                              have c20b1 : decide ((((x4_1 ++ (rdOf ByteArray.empty y129 t132)) ++ (rdOf ByteArray.empty y136 t139)) ++ (rdOf ByteArray.empty y143 t146)).size + 1 ≤ 9223372036854775807) = true := decide_eq_true c20
                              try have c20b2 : (9223372036854775807 < (((x4_1 ++ (rdOf ByteArray.empty y129 t132)) ++ (rdOf ByteArray.empty y136 t139)) ++ (rdOf ByteArray.empty y143 t146)).size + 1) = False := eq_false (Nat.not_lt.2 c20)
                              have H' := Aside0.mk H
                              clear H
                              try go_wp2
                              have pi135 : (0 ≤ (t132 : Int)) = True := eq_true (of_decide_eq_true (by first | (with_reducible assumption) | assumption))
                              have qi135 : (t132 < (y129.length : Int)) = True := eq_true (of_decide_eq_true (by first | (with_reducible assumption) | assumption))
                              have pi142 : (0 ≤ (t139 : Int)) = True := eq_true (of_decide_eq_true (by first | (with_reducible assumption) | assumption))
                              have qi142 : (t139 < (y136.length : Int)) = True := eq_true (of_decide_eq_true (by first | (with_reducible assumption) | assumption))
                              have pi149 : (0 ≤ (t146 : Int)) = True := eq_true (of_decide_eq_true (by first | (with_reducible assumption) | assumption))
                              have qi149 : (t146 < (y143.length : Int)) = True := eq_true (of_decide_eq_true (by first | (with_reducible assumption) | assumption))
                              have n0_ := Aside0.mk (IsS102.drew HI125.out)
                              have n1_ := Aside0.mk (below_drew1 HB.out)
                              clear HI125
                              clear HB
                              have HI125 := n0_
                              have HB := n1_
                              clear n0_ n1_
                              refine start_ (n := 20) (S := fun w' => True) (ds := []) #[false, false, false, false, false, false, false, false, false, false, false, false, false, false, false, false, false, false, false, false] (by kernel_rfl) rfl rfl trivial (fun hHeld => ?_); refine with_tabW spec_DrawReadPriority.tab6 spec_DrawReadPriority.bits6 (fun HT_ HW_ => ?_)
                              generalize wr.drew = w21 at HI125 HB hHeld ⊢
                              refine pure_ (i := 0) (N := some 14) (v := ?_) (a' := ?_) #[true, false, false, false, false, false, false, false, false, false, false, false, false, false, false, false, false, false, false, false] rfl rfl (any_of HT_.out (by kernel_rfl)) (fun _ _ _ h => h) (Or.inl ⟨by rfl, ?_⟩) ?_ ?_
                              rotate_left
                              · intro w'
                                go_simp
                                with_reducible rfl
                              rotate_left
                              · simp only [Act.put, List.setIfInBounds_toArray, List.set_cons_zero, List.set_cons_succ, i64_w, i32_w]
                                rfl
                              refine pure_ (i := 2) (N := some 16) (v := ?_) (a' := ?_) #[true, false, true, false, false, false, false, false, false, false, false, false, false, false, false, false, false, false, false, false] rfl rfl (any_of HT_.out (by kernel_rfl)) (fun _ _ _ h => h) (Or.inl ⟨by rfl, ?_⟩) ?_ ?_
                              rotate_left
                              · intro w'
                                go_simp
                                with_reducible rfl
                              rotate_left
                              · simp only [Act.put, List.setIfInBounds_toArray, List.set_cons_zero, List.set_cons_succ, i64_w, i32_w]
                                rfl
                              refine pure_ (i := 8) (N := some 22) (v := ?_) (a' := ?_) #[true, false, true, false, false, false, false, false, true, false, false, false, false, false, false, false, false, false, false, false] rfl rfl (any_of HT_.out (by kernel_rfl)) (fun _ _ _ h => h) (Or.inl ⟨by rfl, ?_⟩) ?_ ?_
                              rotate_left
                              · intro w'
                                go_simp
                                with_reducible rfl
                              rotate_left
                              · simp only [Act.put, List.setIfInBounds_toArray, List.set_cons_zero, List.set_cons_succ, i64_w, i32_w]
                                rfl
                              refine pure_ (i := 14) (N := some 28) (v := ?_) (a' := ?_) #[true, false, true, false, false, false, false, false, true, false, false, false, false, false, true, false, false, false, false, false] rfl rfl (any_of HT_.out (by kernel_rfl)) (fun _ _ _ h => h) (Or.inl ⟨by rfl, ?_⟩) ?_ ?_
                              rotate_left
                              · intro w'
                                go_simp
                                with_reducible rfl
                              rotate_left
                              · simp only [Act.put, List.setIfInBounds_toArray, List.set_cons_zero, List.set_cons_succ, i64_w, i32_w]
                                rfl
                              refine inv_at [1, 3, 4, 5, 6, 7, 9, 10, 11, 12, 13, 15, 16, 17, 18, 19] (fun a0_ b a w' => ∃ (v130 : Value) (adz_v130 : Addr) (v137 : Value) (adz_v137 : Addr) (v144 : Value) (adz_v144 : Addr) (m4_ : Value) (m10_ : Value) (m16_ : Value), a = putSel a0_ b [(1, 15, v130), (3, 17, .int .i64 t132), (4, 18, m4_), (5, 19, .string (rdOf ByteArray.empty y129 t132)), (6, 20, .string (x4_1 ++ (rdOf ByteArray.empty y129 t132))), (7, 21, v137), (9, 23, .int .i64 t139), (10, 24, m10_), (11, 25, .string (rdOf ByteArray.empty y136 t139)), (12, 26, .string ((x4_1 ++ (rdOf ByteArray.empty y129 t132)) ++ (rdOf ByteArray.empty y136 t139))), (13, 27, v144), (15, 29, .int .i64 t146), (16, 30, m16_), (17, 31, .string (rdOf ByteArray.empty y143 t146)), (18, 32, .string (((x4_1 ++ (rdOf ByteArray.empty y129 t132)) ++ (rdOf ByteArray.empty y136 t139)) ++ (rdOf ByteArray.empty y143 t146))), (19, 4, .string (((x4_1 ++ (rdOf ByteArray.empty y129 t132)) ++ (rdOf ByteArray.empty y136 t139)) ++ (rdOf ByteArray.empty y143 t146)))] ∧ (b 3 = false → IsS102 w w' g125 t122 x126001_1 x126002_1) ∧ (Below w.heap.size w w') ∧ (b 1 = true → Kd.R Kd.string 9 w' w.heap.size (fun _ => True) v130 y129) ∧ (b 1 = true → ∃ c_, (v130 : Value) = .slice (some adz_v130) y129.length c_) ∧ (b 3 = true → b 9 = false → IsS102 w w' g125 t122 t133 t134) ∧ (b 7 = true → Kd.R Kd.string 9 w' w.heap.size (fun _ => True) v137 y136) ∧ (b 7 = true → ∃ c_, (v137 : Value) = .slice (some adz_v137) y136.length c_) ∧ (b 9 = true → b 15 = false → IsS102 w w' g125 t122 t140 t141) ∧ (b 13 = true → Kd.R Kd.string 9 w' w.heap.size (fun _ => True) v144 y143) ∧ (b 13 = true → ∃ c_, (v144 : Value) = .slice (some adz_v144) y143.length c_) ∧ (b 15 = true → IsS102 w w' g125 t122 t147 t148) ∧ (b 4 = true → (m4_ : Value) = .pointer (some (adz_v130.add (t132).toNat))) ∧ (b 10 = true → (m10_ : Value) = .pointer (some (adz_v137.add (t139).toNat))) ∧ (b 16 = true → (m16_ : Value) = .pointer (some (adz_v144.add (t146).toNat)))) HT_.out HW_.out (by kernel_rfl) (by kernel_rfl) ?_ ?_ ?_
                              · exact ⟨.bool false, ⟨0, 0, none⟩, .bool false, ⟨0, 0, none⟩, .bool false, ⟨0, 0, none⟩, .bool false, .bool false, .bool false, by simp only [putSel, Bool.false_eq_true, if_false], fun _ => HI125.out, HB.out, fun h_ => absurd h_ (by decide), fun h_ => absurd h_ (by decide), fun h_ => absurd h_ (by decide), fun h_ => absurd h_ (by decide), fun h_ => absurd h_ (by decide), fun h_ => absurd h_ (by decide), fun h_ => absurd h_ (by decide), fun h_ => absurd h_ (by decide), fun h_ => absurd h_ (by decide), fun h_ => absurd h_ (by decide), fun h_ => absurd h_ (by decide), fun h_ => absurd h_ (by decide)⟩
                              · skip
                                clear HB HI125
                                refine steps_cons ?_ ?_
                                · rintro b a w' ⟨v130, adz_v130, v137, adz_v137, v144, adz_v144, m4_, m10_, m16_, ha, Q_HI125, Q_HB, Q_HO131, Q_HA_HO131, Q_HI125_e3, Q_HO138, Q_HA_HO138, Q_HI125_e9, Q_HO145, Q_HA_HO145, Q_HI125_e15, Q_X4_, Q_X10_, Q_X16_⟩ hb_ hon hoff
                                  refine ⟨_, rfl, fun K hK => ?_⟩
                                  replace ha := Aside0.mk ha
                                  have HB := Aside0.mk Q_HB
                                  refine Kd.R_lit_step Kd.string _ 9 ?hg (N := 15) ?hd (xs := ([(⟨#[]⟩ : ByteArray), (⟨#[32]⟩ : ByteArray), (⟨#[32, 32]⟩ : ByteArray)] : List ByteArray)) (inner := [.string (⟨#[]⟩ : ByteArray), .string (⟨#[32]⟩ : ByteArray), .string (⟨#[32, 32]⟩ : ByteArray)]) (ok := fun _ => True) (okp := fun _ => True) ?hr ?hp (fun _ hk => hk) trivial (Below.refl _ _) (Nat.le_refl _) (by simp) ?_; (case hd => rfl); (case hg => rfl); (case hr => first | (go_simp; done) | (go_simp; rfl)); (case hp => exact (Reps.one (show Kd.M Kd.string _ _ _ (⟨#[]⟩ : ByteArray) [.string (⟨#[]⟩ : ByteArray)] from rfl) (Reps.one (show Kd.M Kd.string _ _ _ (⟨#[32]⟩ : ByteArray) [.string (⟨#[32]⟩ : ByteArray)] from rfl) (Reps.one (show Kd.M Kd.string _ _ _ (⟨#[32, 32]⟩ : ByteArray) [.string (⟨#[32, 32]⟩ : ByteArray)] from rfl) (Reps.none _ _)))))
                                  intro v130 w22 ho23 hb hg_ hnew_
                                  clear hg_ hnew_
                                  (first | rw [← Ny129.out] at ho23 | (simp only [Int.reduceToNat] at ho23; rw [← Ny129.out] at ho23))
                                  have n0_ := Aside0.mk (Kd.R_lower ho23 (below_size (by repeat (first | (with_reducible first | exact HB.out | apply below_alloc | apply pw_below_drewN | apply below_drew1) | exact HB.out))))
                                  have n2_ := Aside0.mk (below_step (by repeat (first | (with_reducible first | exact HB.out | apply below_alloc | apply pw_below_drewN | apply below_drew1) | exact HB.out)) hb)
                                  have z_HI125 := fun (h0_ : b 3 = false) => (show IsS102 w w22 g125 t122 x126001_1 x126002_1 from by first | exact (IsS102.below (by repeat (first | (with_reducible first | exact (Q_HI125 h0_) | apply IsS102.alloc | apply IsS102.drewN | apply IsS102.drew | apply IsS102.set_1 | apply IsS102.set_2) | exact (Q_HI125 h0_))) hb))
                                  have z_HI125_e3 := fun (h0_ : b 3 = true) (h1_ : b 9 = false) => (show IsS102 w w22 g125 t122 t133 t134 from by first | exact (IsS102.below (by repeat (first | (with_reducible first | exact (Q_HI125_e3 h0_ h1_) | apply IsS102.alloc | apply IsS102.drewN | apply IsS102.drew | apply IsS102.set_1 | apply IsS102.set_2) | exact (Q_HI125_e3 h0_ h1_))) hb))
                                  have z_HO138 := fun (h0_ : b 7 = true) => (show Kd.R Kd.string 9 w22 w.heap.size (fun _ => True) v137 y136 from by first | exact (Kd.R_elder' (by (with_reducible repeat (first | apply Kd.R_alloc | apply Kd.R_drewN | apply Kd.R_drew)); exact (Q_HO138 h0_)) (Kd.R_base ho23) hb) | exact Kd.R_mono (Kd.R_elder' (by (with_reducible repeat (first | apply Kd.R_alloc | apply Kd.R_drewN | apply Kd.R_drew)); exact (Q_HO138 h0_)) (Kd.R_base ho23) hb) (fun _ h_ => by first | trivial | exact h_ | exact h_.1))
                                  have z_HI125_e9 := fun (h0_ : b 9 = true) (h1_ : b 15 = false) => (show IsS102 w w22 g125 t122 t140 t141 from by first | exact (IsS102.below (by repeat (first | (with_reducible first | exact (Q_HI125_e9 h0_ h1_) | apply IsS102.alloc | apply IsS102.drewN | apply IsS102.drew | apply IsS102.set_1 | apply IsS102.set_2) | exact (Q_HI125_e9 h0_ h1_))) hb))
                                  have z_HO145 := fun (h0_ : b 13 = true) => (show Kd.R Kd.string 9 w22 w.heap.size (fun _ => True) v144 y143 from by first | exact (Kd.R_elder' (by (with_reducible repeat (first | apply Kd.R_alloc | apply Kd.R_drewN | apply Kd.R_drew)); exact (Q_HO145 h0_)) (Kd.R_base ho23) hb) | exact Kd.R_mono (Kd.R_elder' (by (with_reducible repeat (first | apply Kd.R_alloc | apply Kd.R_drewN | apply Kd.R_drew)); exact (Q_HO145 h0_)) (Kd.R_base ho23) hb) (fun _ h_ => by first | trivial | exact h_ | exact h_.1))
                                  have z_HI125_e15 := fun (h0_ : b 15 = true) => (show IsS102 w w22 g125 t122 t147 t148 from by first | exact (IsS102.below (by repeat (first | (with_reducible first | exact (Q_HI125_e15 h0_) | apply IsS102.alloc | apply IsS102.drewN | apply IsS102.drew | apply IsS102.set_1 | apply IsS102.set_2) | exact (Q_HI125_e15 h0_))) hb))
                                  clear HB
                                  have HO131 := n0_
                                  have HB := n2_
                                  clear n0_ n2_
                                  clear hb ho23
                                  obtain ⟨Ao24, co24, eo24⟩ := Kd.R_slice HO131.out
                                  subst eo24
                                  obtain ⟨ado24, fo24, _⟩ := Kd.at_string (Kd.R_reads' HO131.out).2.2 0 (by decide) (by rw [Ny129.out]; simp)
                                  cases fo24
                                  refine hK.out _ _ ⟨.slice (some ado24) y129.length co24, ado24, v137, adz_v137, v144, adz_v144, m4_, m10_, m16_, (by rw [ha.out]; exact putSel_upk 0 hb_ rfl rfl rfl), z_HI125, (by repeat (first | (with_reducible first | exact HB.out | apply below_alloc | apply pw_below_drewN | apply below_drew1) | exact HB.out)), fun _ => (by (with_reducible repeat (first | apply Kd.R_alloc | apply Kd.R_drewN | apply Kd.R_drew)); exact HO131.out), fun _ => ⟨_, rfl⟩, z_HI125_e3, z_HO138, Q_HA_HO138, z_HI125_e9, z_HO145, Q_HA_HO145, z_HI125_e15, fun h0_ => absurd ((hoff 4 (by kernel_rfl)).symm.trans h0_) (by decide), Q_X10_, Q_X16_⟩
                                refine steps_cons ?_ ?_
                                · rintro b a w' ⟨v130, adz_v130, v137, adz_v137, v144, adz_v144, m4_, m10_, m16_, ha, Q_HI125, Q_HB, Q_HO131, Q_HA_HO131, Q_HI125_e3, Q_HO138, Q_HA_HO138, Q_HI125_e9, Q_HO145, Q_HA_HO145, Q_HI125_e15, Q_X4_, Q_X10_, Q_X16_⟩ hb_ hon hoff
                                  refine ⟨_, rfl, fun K hK => ?_⟩
                                  have e16 : a.tmps[16]? = some (.pointer (some ⟨g125, 0, none⟩)) := by rw [ha]; exact (putSel_off rfl).trans rfl
                                  replace ha := Aside0.mk ha
                                  have HI125 := Aside0.mk (Q_HI125 hb_)
                                  have HB := Aside0.mk Q_HB
                                  refine goes_ Tryd.func45 (by kernel_rfl) rfl #[.pointer (some ⟨g125, 0, none⟩), .int .i64 3] (by rfl) rfl rfl (by first | (simp only [List.map_toArray, List.map_cons, List.map_nil, Act.eval, Array.getD_eq_getD_getElem?, Option.getD_some, e16]; done) | (simp only [List.map_toArray, List.map_cons, List.map_nil, Act.eval, Array.getD_eq_getD_getElem?, Option.getD_some, e16]; rfl)) ?_
                                  with_reducible refine (spec_l01Src_next.calls g125 t122 x126001_1 x126002_1 3 t132 t133 t134 w _ ?side1 ?side2 A7.out).mono ?_
                                  (case side1 => repeat (first | (with_reducible first | exact HI125.out | apply IsS102.alloc | apply IsS102.drewN | apply IsS102.drew | apply IsS102.set_1 | apply IsS102.set_2) | exact HI125.out))
                                  (case side2 => repeat (first | (with_reducible first | exact HB.out | apply below_alloc | apply pw_below_drewN | apply below_drew1 | refine below_set ?_ (IsS102.ge HI125.out)) | exact HB.out))
                                  rintro e w22 ⟨rfl, hi, hb, hk⟩
                                  refine ⟨_, rfl, ?_⟩
                                  have n0_ := Aside0.mk (hb)
                                  have n1_ := Aside0.mk (hi)
                                  have z_HO131 := fun (h0_ : b 1 = true) => (show Kd.R Kd.string 9 w22 w.heap.size (fun _ => True) v130 y129 from by first | exact (Kd.R_mono (Kd.R_keep (IsS102.apart (show IsS102 w _ g125 t122 x126001_1 x126002_1 from by repeat (first | (with_reducible first | exact HI125.out | apply IsS102.alloc | apply IsS102.drewN | apply IsS102.drew | apply IsS102.set_1 | apply IsS102.set_2) | exact HI125.out)) (by (with_reducible repeat (first | apply Kd.R_alloc | apply Kd.R_drewN | apply Kd.R_drew)); exact (Q_HO131 h0_)) (by decide)) hk (fun _ h => h.2)) (fun _ h => h.1)) | exact Kd.R_mono (Kd.R_mono (Kd.R_keep (IsS102.apart (show IsS102 w _ g125 t122 x126001_1 x126002_1 from by repeat (first | (with_reducible first | exact HI125.out | apply IsS102.alloc | apply IsS102.drewN | apply IsS102.drew | apply IsS102.set_1 | apply IsS102.set_2) | exact HI125.out)) (by (with_reducible repeat (first | apply Kd.R_alloc | apply Kd.R_drewN | apply Kd.R_drew)); exact (Q_HO131 h0_)) (by decide)) hk (fun _ h => h.2)) (fun _ h => h.1)) (fun _ h_ => by first | trivial | exact h_ | exact h_.1))
                                  have z_HO138 := fun (h0_ : b 7 = true) => (show Kd.R Kd.string 9 w22 w.heap.size (fun _ => True) v137 y136 from by first | exact (Kd.R_mono (Kd.R_keep (IsS102.apart (show IsS102 w _ g125 t122 x126001_1 x126002_1 from by repeat (first | (with_reducible first | exact HI125.out | apply IsS102.alloc | apply IsS102.drewN | apply IsS102.drew | apply IsS102.set_1 | apply IsS102.set_2) | exact HI125.out)) (by (with_reducible repeat (first | apply Kd.R_alloc | apply Kd.R_drewN | apply Kd.R_drew)); exact (Q_HO138 h0_)) (by decide)) hk (fun _ h => h.2)) (fun _ h => h.1)) | exact Kd.R_mono (Kd.R_mono (Kd.R_keep (IsS102.apart (show IsS102 w _ g125 t122 x126001_1 x126002_1 from by repeat (first | (with_reducible first | exact HI125.out | apply IsS102.alloc | apply IsS102.drewN | apply IsS102.drew | apply IsS102.set_1 | apply IsS102.set_2) | exact HI125.out)) (by (with_reducible repeat (first | apply Kd.R_alloc | apply Kd.R_drewN | apply Kd.R_drew)); exact (Q_HO138 h0_)) (by decide)) hk (fun _ h => h.2)) (fun _ h => h.1)) (fun _ h_ => by first | trivial | exact h_ | exact h_.1))
                                  have z_HO145 := fun (h0_ : b 13 = true) => (show Kd.R Kd.string 9 w22 w.heap.size (fun _ => True) v144 y143 from by first | exact (Kd.R_mono (Kd.R_keep (IsS102.apart (show IsS102 w _ g125 t122 x126001_1 x126002_1 from by repeat (first | (with_reducible first | exact HI125.out | apply IsS102.alloc | apply IsS102.drewN | apply IsS102.drew | apply IsS102.set_1 | apply IsS102.set_2) | exact HI125.out)) (by (with_reducible repeat (first | apply Kd.R_alloc | apply Kd.R_drewN | apply Kd.R_drew)); exact (Q_HO145 h0_)) (by decide)) hk (fun _ h => h.2)) (fun _ h => h.1)) | exact Kd.R_mono (Kd.R_mono (Kd.R_keep (IsS102.apart (show IsS102 w _ g125 t122 x126001_1 x126002_1 from by repeat (first | (with_reducible first | exact HI125.out | apply IsS102.alloc | apply IsS102.drewN | apply IsS102.drew | apply IsS102.set_1 | apply IsS102.set_2) | exact HI125.out)) (by (with_reducible repeat (first | apply Kd.R_alloc | apply Kd.R_drewN | apply Kd.R_drew)); exact (Q_HO145 h0_)) (by decide)) hk (fun _ h => h.2)) (fun _ h => h.1)) (fun _ h_ => by first | trivial | exact h_ | exact h_.1))
                                  clear HB
                                  clear HI125
                                  have HB := n0_
                                  have HI125 := n1_
                                  clear n0_ n1_
                                  (try clear hb)
                                  (try clear hb2)
                                  (try clear hk)
                                  (try clear hi)
                                  refine hK.out _ _ ⟨v130, adz_v130, v137, adz_v137, v144, adz_v144, m4_, m10_, m16_, (by rw [ha.out]; exact putSel_upk 1 hb_ rfl rfl rfl), fun h0_ => absurd ((up_self b 3).symm.trans h0_) (by decide), (by repeat (first | (with_reducible first | exact HB.out | apply below_alloc | apply pw_below_drewN | apply below_drew1 | refine below_set ?_ (IsS102.ge HI125.out)) | exact HB.out)), z_HO131, Q_HA_HO131, fun _ _ => (by repeat (first | (with_reducible first | exact HI125.out | apply IsS102.alloc | apply IsS102.drewN | apply IsS102.drew | apply IsS102.set_1 | apply IsS102.set_2) | exact HI125.out)), z_HO138, Q_HA_HO138, fun h0_ _ => absurd ((hoff 9 (by kernel_rfl)).symm.trans h0_) (by decide), z_HO145, Q_HA_HO145, fun h0_ => absurd ((hoff 15 (by kernel_rfl)).symm.trans h0_) (by decide), fun h0_ => absurd ((hoff 4 (by kernel_rfl)).symm.trans h0_) (by decide), fun h0_ => absurd ((hoff 10 (by kernel_rfl)).symm.trans h0_) (by decide), fun h0_ => absurd ((hoff 16 (by kernel_rfl)).symm.trans h0_) (by decide)⟩
                                refine steps_cons ?_ ?_
                                · rintro b a w' ⟨v130, adz_v130, v137, adz_v137, v144, adz_v144, m4_, m10_, m16_, ha, Q_HI125, Q_HB, Q_HO131, Q_HA_HO131, Q_HI125_e3, Q_HO138, Q_HA_HO138, Q_HI125_e9, Q_HO145, Q_HA_HO145, Q_HI125_e15, Q_X4_, Q_X10_, Q_X16_⟩ hb_ hon hoff
                                  refine ⟨_, rfl, fun K hK => ?_⟩
                                  have e15 : a.tmps[15]? = some (v130) := by rw [ha]; exact putSel_on (e := (1, 15, v130)) 0 rfl rfl (hon 1 (by kernel_rfl)) rfl
                                  have e17 : a.tmps[17]? = some (.int .i64 t132) := by rw [ha]; exact putSel_on (e := (3, 17, .int .i64 t132)) 1 rfl rfl (hon 3 (by kernel_rfl)) rfl
                                  replace ha := Aside0.mk ha
                                  have HB := Aside0.mk Q_HB
                                  have HO131 := Aside0.mk (Q_HO131 (hon 1 (by kernel_rfl)))
                                  have HA_HO131 := Aside0.mk (Q_HA_HO131 (hon 1 (by kernel_rfl)))
                                  obtain ⟨c_, hv_⟩ := HA_HO131.out
                                  rw [hv_] at e15
                                  refine value_ (w1 := w') (v := .pointer (some (adz_v130.add (t132).toNat))) (by rfl) rfl ?_ ?_
                                  · go_simp
                                    (try simp only [i64_w])
                                    try rfl
                                  refine hK.out _ _ ⟨v130, adz_v130, v137, adz_v137, v144, adz_v144, (.pointer (some (adz_v130.add (t132).toNat))), m10_, m16_, (by rw [ha.out]; exact putSel_upk 2 hb_ rfl rfl rfl), fun h0_ => absurd ((hon 3 (by kernel_rfl)).symm.trans h0_) (by decide), Q_HB, Q_HO131, Q_HA_HO131, Q_HI125_e3, Q_HO138, Q_HA_HO138, Q_HI125_e9, Q_HO145, Q_HA_HO145, Q_HI125_e15, fun _ => rfl, Q_X10_, Q_X16_⟩
                                refine steps_cons ?_ ?_
                                · rintro b a w' ⟨v130, adz_v130, v137, adz_v137, v144, adz_v144, m4_, m10_, m16_, ha, Q_HI125, Q_HB, Q_HO131, Q_HA_HO131, Q_HI125_e3, Q_HO138, Q_HA_HO138, Q_HI125_e9, Q_HO145, Q_HA_HO145, Q_HI125_e15, Q_X4_, Q_X10_, Q_X16_⟩ hb_ hon hoff
                                  refine ⟨_, rfl, fun K hK => ?_⟩
                                  have e18 : a.tmps[18]? = some (m4_) := by rw [ha]; exact putSel_on (e := (4, 18, m4_)) 2 rfl rfl (hon 4 (by kernel_rfl)) rfl
                                  rw [Q_X4_ (hon 4 (by kernel_rfl))] at e18
                                  replace ha := Aside0.mk ha
                                  have HB := Aside0.mk Q_HB
                                  have HO131 := Aside0.mk (Q_HO131 (hon 1 (by kernel_rfl)))
                                  have HA_HO131 := Aside0.mk (Q_HA_HO131 (hon 1 (by kernel_rfl)))
                                  obtain ⟨c_, hv_⟩ := HA_HO131.out
                                  have hF_ := HO131.out
                                  rw [hv_] at hF_
                                  obtain ⟨ad_, ea_, hx_⟩ := Kd.at_string (Kd.R_reads' hF_).2.2 t132 (of_eq_true pi135) (of_eq_true qi135)
                                  cases ea_
                                  refine value_ (w1 := w') (v := .string (rdOf ByteArray.empty y129 t132)) (by rfl) rfl ?_ ?_
                                  · go_simp
                                    (try simp only [i64_w])
                                    try rfl
                                  refine hK.out _ _ ⟨v130, adz_v130, v137, adz_v137, v144, adz_v144, m4_, m10_, m16_, (by rw [ha.out]; exact putSel_upk 3 hb_ rfl rfl rfl), fun h0_ => absurd ((hon 3 (by kernel_rfl)).symm.trans h0_) (by decide), Q_HB, Q_HO131, Q_HA_HO131, Q_HI125_e3, Q_HO138, Q_HA_HO138, Q_HI125_e9, Q_HO145, Q_HA_HO145, Q_HI125_e15, Q_X4_, Q_X10_, Q_X16_⟩
                                refine steps_cons ?_ ?_
                                · rintro b a w' ⟨v130, adz_v130, v137, adz_v137, v144, adz_v144, m4_, m10_, m16_, ha, Q_HI125, Q_HB, Q_HO131, Q_HA_HO131, Q_HI125_e3, Q_HO138, Q_HA_HO138, Q_HI125_e9, Q_HO145, Q_HA_HO145, Q_HI125_e15, Q_X4_, Q_X10_, Q_X16_⟩ hb_ hon hoff
                                  refine ⟨_, rfl, fun K hK => ?_⟩
                                  have e14 : a.tmps[14]? = some (.string x4_1) := by rw [ha]; exact (putSel_off rfl).trans rfl
                                  have e19 : a.tmps[19]? = some (.string (rdOf ByteArray.empty y129 t132)) := by rw [ha]; exact putSel_on (e := (5, 19, .string (rdOf ByteArray.empty y129 t132))) 3 rfl rfl (hon 5 (by kernel_rfl)) rfl
                                  replace ha := Aside0.mk ha
                                  have HB := Aside0.mk Q_HB
                                  have HO131 := Aside0.mk (Q_HO131 (hon 1 (by kernel_rfl)))
                                  have HA_HO131 := Aside0.mk (Q_HA_HO131 (hon 1 (by kernel_rfl)))
                                  refine value_ (w1 := w') (v := .string (x4_1 ++ (rdOf ByteArray.empty y129 t132))) (by rfl) rfl ?_ ?_
                                  · go_simp
                                    (try simp only [i64_w])
                                    try rfl
                                  refine hK.out _ _ ⟨v130, adz_v130, v137, adz_v137, v144, adz_v144, m4_, m10_, m16_, (by rw [ha.out]; exact putSel_upk 4 hb_ rfl rfl rfl), fun h0_ => absurd ((hon 3 (by kernel_rfl)).symm.trans h0_) (by decide), Q_HB, Q_HO131, Q_HA_HO131, Q_HI125_e3, Q_HO138, Q_HA_HO138, Q_HI125_e9, Q_HO145, Q_HA_HO145, Q_HI125_e15, Q_X4_, Q_X10_, Q_X16_⟩
                                refine steps_cons ?_ ?_
                                · rintro b a w' ⟨v130, adz_v130, v137, adz_v137, v144, adz_v144, m4_, m10_, m16_, ha, Q_HI125, Q_HB, Q_HO131, Q_HA_HO131, Q_HI125_e3, Q_HO138, Q_HA_HO138, Q_HI125_e9, Q_HO145, Q_HA_HO145, Q_HI125_e15, Q_X4_, Q_X10_, Q_X16_⟩ hb_ hon hoff
                                  refine ⟨_, rfl, fun K hK => ?_⟩
                                  replace ha := Aside0.mk ha
                                  have HB := Aside0.mk Q_HB
                                  refine Kd.R_lit_step Kd.string _ 9 ?hg (N := 21) ?hd (xs := ([(⟨#[117, 61, 48]⟩ : ByteArray), (⟨#[117, 61, 55]⟩ : ByteArray), (⟨#[117, 61, 56]⟩ : ByteArray), (⟨#[117, 61]⟩ : ByteArray), (⟨#[117, 61, 51, 51]⟩ : ByteArray), (⟨#[105]⟩ : ByteArray), (⟨#[105, 61, 63, 49]⟩ : ByteArray), (⟨#[105, 61, 63, 48]⟩ : ByteArray), (⟨#[105, 61, 49]⟩ : ByteArray), (⟨#[120, 61, 53]⟩ : ByteArray), (⟨#[85, 61, 49]⟩ : ByteArray), (⟨#[117, 32, 61, 49]⟩ : ByteArray)] : List ByteArray)) (inner := [.string (⟨#[117, 61, 48]⟩ : ByteArray), .string (⟨#[117, 61, 55]⟩ : ByteArray), .string (⟨#[117, 61, 56]⟩ : ByteArray), .string (⟨#[117, 61]⟩ : ByteArray), .string (⟨#[117, 61, 51, 51]⟩ : ByteArray), .string (⟨#[105]⟩ : ByteArray), .string (⟨#[105, 61, 63, 49]⟩ : ByteArray), .string (⟨#[105, 61, 63, 48]⟩ : ByteArray), .string (⟨#[105, 61, 49]⟩ : ByteArray), .string (⟨#[120, 61, 53]⟩ : ByteArray), .string (⟨#[85, 61, 49]⟩ : ByteArray), .string (⟨#[117, 32, 61, 49]⟩ : ByteArray)]) (ok := fun _ => True) (okp := fun _ => True) ?hr ?hp (fun _ hk => hk) trivial (Below.refl _ _) (Nat.le_refl _) (by simp) ?_; (case hd => rfl); (case hg => rfl); (case hr => first | (go_simp; done) | (go_simp; rfl)); (case hp => exact (Reps.one (show Kd.M Kd.string _ _ _ (⟨#[117, 61, 48]⟩ : ByteArray) [.string (⟨#[117, 61, 48]⟩ : ByteArray)] from rfl) (Reps.one (show Kd.M Kd.string _ _ _ (⟨#[117, 61, 55]⟩ : ByteArray) [.string (⟨#[117, 61, 55]⟩ : ByteArray)] from rfl) (Reps.one (show Kd.M Kd.string _ _ _ (⟨#[117, 61, 56]⟩ : ByteArray) [.string (⟨#[117, 61, 56]⟩ : ByteArray)] from rfl) (Reps.one (show Kd.M Kd.string _ _ _ (⟨#[117, 61]⟩ : ByteArray) [.string (⟨#[117, 61]⟩ : ByteArray)] from rfl) (Reps.one (show Kd.M Kd.string _ _ _ (⟨#[117, 61, 51, 51]⟩ : ByteArray) [.string (⟨#[117, 61, 51, 51]⟩ : ByteArray)] from rfl) (Reps.one (show Kd.M Kd.string _ _ _ (⟨#[105]⟩ : ByteArray) [.string (⟨#[105]⟩ : ByteArray)] from rfl) (Reps.one (show Kd.M Kd.string _ _ _ (⟨#[105, 61, 63, 49]⟩ : ByteArray) [.string (⟨#[105, 61, 63, 49]⟩ : ByteArray)] from rfl) (Reps.one (show Kd.M Kd.string _ _ _ (⟨#[105, 61, 63, 48]⟩ : ByteArray) [.string (⟨#[105, 61, 63, 48]⟩ : ByteArray)] from rfl) (Reps.one (show Kd.M Kd.string _ _ _ (⟨#[105, 61, 49]⟩ : ByteArray) [.string (⟨#[105, 61, 49]⟩ : ByteArray)] from rfl) (Reps.one (show Kd.M Kd.string _ _ _ (⟨#[120, 61, 53]⟩ : ByteArray) [.string (⟨#[120, 61, 53]⟩ : ByteArray)] from rfl) (Reps.one (show Kd.M Kd.string _ _ _ (⟨#[85, 61, 49]⟩ : ByteArray) [.string (⟨#[85, 61, 49]⟩ : ByteArray)] from rfl) (Reps.one (show Kd.M Kd.string _ _ _ (⟨#[117, 32, 61, 49]⟩ : ByteArray) [.string (⟨#[117, 32, 61, 49]⟩ : ByteArray)] from rfl) (Reps.none _ _))))))))))))))
                                  intro v137 w22 ho23 hb hg_ hnew_
                                  clear hg_ hnew_
                                  (first | rw [← Ny136.out] at ho23 | (simp only [Int.reduceToNat] at ho23; rw [← Ny136.out] at ho23))
                                  have n0_ := Aside0.mk (Kd.R_lower ho23 (below_size (by repeat (first | (with_reducible first | exact HB.out | apply below_alloc | apply pw_below_drewN | apply below_drew1) | exact HB.out))))
                                  have n2_ := Aside0.mk (below_step (by repeat (first | (with_reducible first | exact HB.out | apply below_alloc | apply pw_below_drewN | apply below_drew1) | exact HB.out)) hb)
                                  have z_HI125 := fun (h0_ : b 3 = false) => (show IsS102 w w22 g125 t122 x126001_1 x126002_1 from by first | exact (IsS102.below (by repeat (first | (with_reducible first | exact (Q_HI125 h0_) | apply IsS102.alloc | apply IsS102.drewN | apply IsS102.drew | apply IsS102.set_1 | apply IsS102.set_2) | exact (Q_HI125 h0_))) hb))
                                  have z_HO131 := fun (h0_ : b 1 = true) => (show Kd.R Kd.string 9 w22 w.heap.size (fun _ => True) v130 y129 from by first | exact (Kd.R_elder' (by (with_reducible repeat (first | apply Kd.R_alloc | apply Kd.R_drewN | apply Kd.R_drew)); exact (Q_HO131 h0_)) (Kd.R_base ho23) hb) | exact Kd.R_mono (Kd.R_elder' (by (with_reducible repeat (first | apply Kd.R_alloc | apply Kd.R_drewN | apply Kd.R_drew)); exact (Q_HO131 h0_)) (Kd.R_base ho23) hb) (fun _ h_ => by first | trivial | exact h_ | exact h_.1))
                                  have z_HI125_e3 := fun (h0_ : b 3 = true) (h1_ : b 9 = false) => (show IsS102 w w22 g125 t122 t133 t134 from by first | exact (IsS102.below (by repeat (first | (with_reducible first | exact (Q_HI125_e3 h0_ h1_) | apply IsS102.alloc | apply IsS102.drewN | apply IsS102.drew | apply IsS102.set_1 | apply IsS102.set_2) | exact (Q_HI125_e3 h0_ h1_))) hb))
                                  have z_HI125_e9 := fun (h0_ : b 9 = true) (h1_ : b 15 = false) => (show IsS102 w w22 g125 t122 t140 t141 from by first | exact (IsS102.below (by repeat (first | (with_reducible first | exact (Q_HI125_e9 h0_ h1_) | apply IsS102.alloc | apply IsS102.drewN | apply IsS102.drew | apply IsS102.set_1 | apply IsS102.set_2) | exact (Q_HI125_e9 h0_ h1_))) hb))
                                  have z_HO145 := fun (h0_ : b 13 = true) => (show Kd.R Kd.string 9 w22 w.heap.size (fun _ => True) v144 y143 from by first | exact (Kd.R_elder' (by (with_reducible repeat (first | apply Kd.R_alloc | apply Kd.R_drewN | apply Kd.R_drew)); exact (Q_HO145 h0_)) (Kd.R_base ho23) hb) | exact Kd.R_mono (Kd.R_elder' (by (with_reducible repeat (first | apply Kd.R_alloc | apply Kd.R_drewN | apply Kd.R_drew)); exact (Q_HO145 h0_)) (Kd.R_base ho23) hb) (fun _ h_ => by first | trivial | exact h_ | exact h_.1))
                                  have z_HI125_e15 := fun (h0_ : b 15 = true) => (show IsS102 w w22 g125 t122 t147 t148 from by first | exact (IsS102.below (by repeat (first | (with_reducible first | exact (Q_HI125_e15 h0_) | apply IsS102.alloc | apply IsS102.drewN | apply IsS102.drew | apply IsS102.set_1 | apply IsS102.set_2) | exact (Q_HI125_e15 h0_))) hb))
                                  clear HB
                                  have HO138 := n0_
                                  have HB := n2_
                                  clear n0_ n2_
                                  clear hb ho23
                                  obtain ⟨Ao24, co24, eo24⟩ := Kd.R_slice HO138.out
                                  subst eo24
                                  obtain ⟨ado24, fo24, _⟩ := Kd.at_string (Kd.R_reads' HO138.out).2.2 0 (by decide) (by rw [Ny136.out]; simp)
                                  cases fo24
                                  refine hK.out _ _ ⟨v130, adz_v130, .slice (some ado24) y136.length co24, ado24, v144, adz_v144, m4_, m10_, m16_, (by rw [ha.out]; exact putSel_upk 5 hb_ rfl rfl rfl), z_HI125, (by repeat (first | (with_reducible first | exact HB.out | apply below_alloc | apply pw_below_drewN | apply below_drew1) | exact HB.out)), z_HO131, Q_HA_HO131, z_HI125_e3, fun _ => (by (with_reducible repeat (first | apply Kd.R_alloc | apply Kd.R_drewN | apply Kd.R_drew)); exact HO138.out), fun _ => ⟨_, rfl⟩, z_HI125_e9, z_HO145, Q_HA_HO145, z_HI125_e15, Q_X4_, fun h0_ => absurd ((hoff 10 (by kernel_rfl)).symm.trans h0_) (by decide), Q_X16_⟩
                                refine steps_cons ?_ ?_
                                · rintro b a w' ⟨v130, adz_v130, v137, adz_v137, v144, adz_v144, m4_, m10_, m16_, ha, Q_HI125, Q_HB, Q_HO131, Q_HA_HO131, Q_HI125_e3, Q_HO138, Q_HA_HO138, Q_HI125_e9, Q_HO145, Q_HA_HO145, Q_HI125_e15, Q_X4_, Q_X10_, Q_X16_⟩ hb_ hon hoff
                                  refine ⟨_, rfl, fun K hK => ?_⟩
                                  have e22 : a.tmps[22]? = some (.pointer (some ⟨g125, 0, none⟩)) := by rw [ha]; exact (putSel_off rfl).trans rfl
                                  replace ha := Aside0.mk ha
                                  have HB := Aside0.mk Q_HB
                                  have HI125 := Aside0.mk (Q_HI125_e3 (hon 3 (by kernel_rfl)) hb_)
                                  refine goes_ Tryd.func45 (by kernel_rfl) rfl #[.pointer (some ⟨g125, 0, none⟩), .int .i64 12] (by rfl) rfl rfl (by first | (simp only [List.map_toArray, List.map_cons, List.map_nil, Act.eval, Array.getD_eq_getD_getElem?, Option.getD_some, e22]; done) | (simp only [List.map_toArray, List.map_cons, List.map_nil, Act.eval, Array.getD_eq_getD_getElem?, Option.getD_some, e22]; rfl)) ?_
                                  with_reducible refine (spec_l01Src_next.calls g125 t122 t133 t134 12 t139 t140 t141 w _ ?side1 ?side2 A11.out).mono ?_
                                  (case side1 => repeat (first | (with_reducible first | exact HI125.out | apply IsS102.alloc | apply IsS102.drewN | apply IsS102.drew | apply IsS102.set_1 | apply IsS102.set_2) | exact HI125.out))
                                  (case side2 => repeat (first | (with_reducible first | exact HB.out | apply below_alloc | apply pw_below_drewN | apply below_drew1 | refine below_set ?_ (IsS102.ge HI125.out)) | exact HB.out))
                                  rintro e w24 ⟨rfl, hi, hb, hk⟩
                                  refine ⟨_, rfl, ?_⟩
                                  have n0_ := Aside0.mk (hb)
                                  have n1_ := Aside0.mk (hi)
                                  have z_HO131 := fun (h0_ : b 1 = true) => (show Kd.R Kd.string 9 w24 w.heap.size (fun _ => True) v130 y129 from by first | exact (Kd.R_mono (Kd.R_keep (IsS102.apart (show IsS102 w _ g125 t122 t133 t134 from by repeat (first | (with_reducible first | exact HI125.out | apply IsS102.alloc | apply IsS102.drewN | apply IsS102.drew | apply IsS102.set_1 | apply IsS102.set_2) | exact HI125.out)) (by (with_reducible repeat (first | apply Kd.R_alloc | apply Kd.R_drewN | apply Kd.R_drew)); exact (Q_HO131 h0_)) (by decide)) hk (fun _ h => h.2)) (fun _ h => h.1)) | exact Kd.R_mono (Kd.R_mono (Kd.R_keep (IsS102.apart (show IsS102 w _ g125 t122 t133 t134 from by repeat (first | (with_reducible first | exact HI125.out | apply IsS102.alloc | apply IsS102.drewN | apply IsS102.drew | apply IsS102.set_1 | apply IsS102.set_2) | exact HI125.out)) (by (with_reducible repeat (first | apply Kd.R_alloc | apply Kd.R_drewN | apply Kd.R_drew)); exact (Q_HO131 h0_)) (by decide)) hk (fun _ h => h.2)) (fun _ h => h.1)) (fun _ h_ => by first | trivial | exact h_ | exact h_.1))
                                  have z_HO138 := fun (h0_ : b 7 = true) => (show Kd.R Kd.string 9 w24 w.heap.size (fun _ => True) v137 y136 from by first | exact (Kd.R_mono (Kd.R_keep (IsS102.apart (show IsS102 w _ g125 t122 t133 t134 from by repeat (first | (with_reducible first | exact HI125.out | apply IsS102.alloc | apply IsS102.drewN | apply IsS102.drew | apply IsS102.set_1 | apply IsS102.set_2) | exact HI125.out)) (by (with_reducible repeat (first | apply Kd.R_alloc | apply Kd.R_drewN | apply Kd.R_drew)); exact (Q_HO138 h0_)) (by decide)) hk (fun _ h => h.2)) (fun _ h => h.1)) | exact Kd.R_mono (Kd.R_mono (Kd.R_keep (IsS102.apart (show IsS102 w _ g125 t122 t133 t134 from by repeat (first | (with_reducible first | exact HI125.out | apply IsS102.alloc | apply IsS102.drewN | apply IsS102.drew | apply IsS102.set_1 | apply IsS102.set_2) | exact HI125.out)) (by (with_reducible repeat (first | apply Kd.R_alloc | apply Kd.R_drewN | apply Kd.R_drew)); exact (Q_HO138 h0_)) (by decide)) hk (fun _ h => h.2)) (fun _ h => h.1)) (fun _ h_ => by first | trivial | exact h_ | exact h_.1))
                                  have z_HO145 := fun (h0_ : b 13 = true) => (show Kd.R Kd.string 9 w24 w.heap.size (fun _ => True) v144 y143 from by first | exact (Kd.R_mono (Kd.R_keep (IsS102.apart (show IsS102 w _ g125 t122 t133 t134 from by repeat (first | (with_reducible first | exact HI125.out | apply IsS102.alloc | apply IsS102.drewN | apply IsS102.drew | apply IsS102.set_1 | apply IsS102.set_2) | exact HI125.out)) (by (with_reducible repeat (first | apply Kd.R_alloc | apply Kd.R_drewN | apply Kd.R_drew)); exact (Q_HO145 h0_)) (by decide)) hk (fun _ h => h.2)) (fun _ h => h.1)) | exact Kd.R_mono (Kd.R_mono (Kd.R_keep (IsS102.apart (show IsS102 w _ g125 t122 t133 t134 from by repeat (first | (with_reducible first | exact HI125.out | apply IsS102.alloc | apply IsS102.drewN | apply IsS102.drew | apply IsS102.set_1 | apply IsS102.set_2) | exact HI125.out)) (by (with_reducible repeat (first | apply Kd.R_alloc | apply Kd.R_drewN | apply Kd.R_drew)); exact (Q_HO145 h0_)) (by decide)) hk (fun _ h => h.2)) (fun _ h => h.1)) (fun _ h_ => by first | trivial | exact h_ | exact h_.1))
                                  clear HB
                                  clear HI125
                                  have HB := n0_
                                  have HI125 := n1_
                                  clear n0_ n1_
                                  (try clear hb)
                                  (try clear hb2)
                                  (try clear hk)
                                  (try clear hi)
                                  refine hK.out _ _ ⟨v130, adz_v130, v137, adz_v137, v144, adz_v144, m4_, m10_, m16_, (by rw [ha.out]; exact putSel_upk 6 hb_ rfl rfl rfl), fun h0_ => absurd ((hon 3 (by kernel_rfl)).symm.trans h0_) (by decide), (by repeat (first | (with_reducible first | exact HB.out | apply below_alloc | apply pw_below_drewN | apply below_drew1 | refine below_set ?_ (IsS102.ge HI125.out)) | exact HB.out)), z_HO131, Q_HA_HO131, fun _ h1_ => absurd ((up_self b 9).symm.trans h1_) (by decide), z_HO138, Q_HA_HO138, fun _ _ => (by repeat (first | (with_reducible first | exact HI125.out | apply IsS102.alloc | apply IsS102.drewN | apply IsS102.drew | apply IsS102.set_1 | apply IsS102.set_2) | exact HI125.out)), z_HO145, Q_HA_HO145, fun h0_ => absurd ((hoff 15 (by kernel_rfl)).symm.trans h0_) (by decide), Q_X4_, fun h0_ => absurd ((hoff 10 (by kernel_rfl)).symm.trans h0_) (by decide), fun h0_ => absurd ((hoff 16 (by kernel_rfl)).symm.trans h0_) (by decide)⟩
                                refine steps_cons ?_ ?_
                                · rintro b a w' ⟨v130, adz_v130, v137, adz_v137, v144, adz_v144, m4_, m10_, m16_, ha, Q_HI125, Q_HB, Q_HO131, Q_HA_HO131, Q_HI125_e3, Q_HO138, Q_HA_HO138, Q_HI125_e9, Q_HO145, Q_HA_HO145, Q_HI125_e15, Q_X4_, Q_X10_, Q_X16_⟩ hb_ hon hoff
                                  refine ⟨_, rfl, fun K hK => ?_⟩
                                  have e21 : a.tmps[21]? = some (v137) := by rw [ha]; exact putSel_on (e := (7, 21, v137)) 5 rfl rfl (hon 7 (by kernel_rfl)) rfl
                                  have e23 : a.tmps[23]? = some (.int .i64 t139) := by rw [ha]; exact putSel_on (e := (9, 23, .int .i64 t139)) 6 rfl rfl (hon 9 (by kernel_rfl)) rfl
                                  replace ha := Aside0.mk ha
                                  have HB := Aside0.mk Q_HB
                                  have HO138 := Aside0.mk (Q_HO138 (hon 7 (by kernel_rfl)))
                                  have HA_HO138 := Aside0.mk (Q_HA_HO138 (hon 7 (by kernel_rfl)))
                                  obtain ⟨c_, hv_⟩ := HA_HO138.out
                                  rw [hv_] at e21
                                  refine value_ (w1 := w') (v := .pointer (some (adz_v137.add (t139).toNat))) (by rfl) rfl ?_ ?_
                                  · go_simp
                                    (try simp only [i64_w])
                                    try rfl
                                  refine hK.out _ _ ⟨v130, adz_v130, v137, adz_v137, v144, adz_v144, m4_, (.pointer (some (adz_v137.add (t139).toNat))), m16_, (by rw [ha.out]; exact putSel_upk 7 hb_ rfl rfl rfl), fun h0_ => absurd ((hon 3 (by kernel_rfl)).symm.trans h0_) (by decide), Q_HB, Q_HO131, Q_HA_HO131, fun _ h1_ => absurd ((hon 9 (by kernel_rfl)).symm.trans h1_) (by decide), Q_HO138, Q_HA_HO138, Q_HI125_e9, Q_HO145, Q_HA_HO145, Q_HI125_e15, Q_X4_, fun _ => rfl, Q_X16_⟩
                                refine steps_cons ?_ ?_
                                · rintro b a w' ⟨v130, adz_v130, v137, adz_v137, v144, adz_v144, m4_, m10_, m16_, ha, Q_HI125, Q_HB, Q_HO131, Q_HA_HO131, Q_HI125_e3, Q_HO138, Q_HA_HO138, Q_HI125_e9, Q_HO145, Q_HA_HO145, Q_HI125_e15, Q_X4_, Q_X10_, Q_X16_⟩ hb_ hon hoff
                                  refine ⟨_, rfl, fun K hK => ?_⟩
                                  have e24 : a.tmps[24]? = some (m10_) := by rw [ha]; exact putSel_on (e := (10, 24, m10_)) 7 rfl rfl (hon 10 (by kernel_rfl)) rfl
                                  rw [Q_X10_ (hon 10 (by kernel_rfl))] at e24
                                  replace ha := Aside0.mk ha
                                  have HB := Aside0.mk Q_HB
                                  have HO138 := Aside0.mk (Q_HO138 (hon 7 (by kernel_rfl)))
                                  have HA_HO138 := Aside0.mk (Q_HA_HO138 (hon 7 (by kernel_rfl)))
                                  obtain ⟨c_, hv_⟩ := HA_HO138.out
                                  have hF_ := HO138.out
                                  rw [hv_] at hF_
                                  obtain ⟨ad_, ea_, hx_⟩ := Kd.at_string (Kd.R_reads' hF_).2.2 t139 (of_eq_true pi142) (of_eq_true qi142)
                                  cases ea_
                                  refine value_ (w1 := w') (v := .string (rdOf ByteArray.empty y136 t139)) (by rfl) rfl ?_ ?_
                                  · go_simp
                                    (try simp only [i64_w])
                                    try rfl
                                  refine hK.out _ _ ⟨v130, adz_v130, v137, adz_v137, v144, adz_v144, m4_, m10_, m16_, (by rw [ha.out]; exact putSel_upk 8 hb_ rfl rfl rfl), fun h0_ => absurd ((hon 3 (by kernel_rfl)).symm.trans h0_) (by decide), Q_HB, Q_HO131, Q_HA_HO131, fun _ h1_ => absurd ((hon 9 (by kernel_rfl)).symm.trans h1_) (by decide), Q_HO138, Q_HA_HO138, Q_HI125_e9, Q_HO145, Q_HA_HO145, Q_HI125_e15, Q_X4_, Q_X10_, Q_X16_⟩
                                refine steps_cons ?_ ?_
                                · rintro b a w' ⟨v130, adz_v130, v137, adz_v137, v144, adz_v144, m4_, m10_, m16_, ha, Q_HI125, Q_HB, Q_HO131, Q_HA_HO131, Q_HI125_e3, Q_HO138, Q_HA_HO138, Q_HI125_e9, Q_HO145, Q_HA_HO145, Q_HI125_e15, Q_X4_, Q_X10_, Q_X16_⟩ hb_ hon hoff
                                  refine ⟨_, rfl, fun K hK => ?_⟩
                                  have e20 : a.tmps[20]? = some (.string (x4_1 ++ (rdOf ByteArray.empty y129 t132))) := by rw [ha]; exact putSel_on (e := (6, 20, .string (x4_1 ++ (rdOf ByteArray.empty y129 t132)))) 4 rfl rfl (hon 6 (by kernel_rfl)) rfl
                                  have e25 : a.tmps[25]? = some (.string (rdOf ByteArray.empty y136 t139)) := by rw [ha]; exact putSel_on (e := (11, 25, .string (rdOf ByteArray.empty y136 t139))) 8 rfl rfl (hon 11 (by kernel_rfl)) rfl
                                  replace ha := Aside0.mk ha
                                  have HB := Aside0.mk Q_HB
                                  have HO131 := Aside0.mk (Q_HO131 (hon 1 (by kernel_rfl)))
                                  have HA_HO131 := Aside0.mk (Q_HA_HO131 (hon 1 (by kernel_rfl)))
                                  have HO138 := Aside0.mk (Q_HO138 (hon 7 (by kernel_rfl)))
                                  have HA_HO138 := Aside0.mk (Q_HA_HO138 (hon 7 (by kernel_rfl)))
                                  refine value_ (w1 := w') (v := .string ((x4_1 ++ (rdOf ByteArray.empty y129 t132)) ++ (rdOf ByteArray.empty y136 t139))) (by rfl) rfl ?_ ?_
                                  · go_simp
                                    (try simp only [i64_w])
                                    try rfl
                                  refine hK.out _ _ ⟨v130, adz_v130, v137, adz_v137, v144, adz_v144, m4_, m10_, m16_, (by rw [ha.out]; exact putSel_upk 9 hb_ rfl rfl rfl), fun h0_ => absurd ((hon 3 (by kernel_rfl)).symm.trans h0_) (by decide), Q_HB, Q_HO131, Q_HA_HO131, fun _ h1_ => absurd ((hon 9 (by kernel_rfl)).symm.trans h1_) (by decide), Q_HO138, Q_HA_HO138, Q_HI125_e9, Q_HO145, Q_HA_HO145, Q_HI125_e15, Q_X4_, Q_X10_, Q_X16_⟩
                                refine steps_cons ?_ ?_
                                · rintro b a w' ⟨v130, adz_v130, v137, adz_v137, v144, adz_v144, m4_, m10_, m16_, ha, Q_HI125, Q_HB, Q_HO131, Q_HA_HO131, Q_HI125_e3, Q_HO138, Q_HA_HO138, Q_HI125_e9, Q_HO145, Q_HA_HO145, Q_HI125_e15, Q_X4_, Q_X10_, Q_X16_⟩ hb_ hon hoff
                                  refine ⟨_, rfl, fun K hK => ?_⟩
                                  replace ha := Aside0.mk ha
                                  have HB := Aside0.mk Q_HB
                                  refine Kd.R_lit_step Kd.string _ 9 ?hg (N := 27) ?hd (xs := ([(⟨#[]⟩ : ByteArray), (⟨#[32]⟩ : ByteArray)] : List ByteArray)) (inner := [.string (⟨#[]⟩ : ByteArray), .string (⟨#[32]⟩ : ByteArray)]) (ok := fun _ => True) (okp := fun _ => True) ?hr ?hp (fun _ hk => hk) trivial (Below.refl _ _) (Nat.le_refl _) (by simp) ?_; (case hd => rfl); (case hg => rfl); (case hr => first | (go_simp; done) | (go_simp; rfl)); (case hp => exact (Reps.one (show Kd.M Kd.string _ _ _ (⟨#[]⟩ : ByteArray) [.string (⟨#[]⟩ : ByteArray)] from rfl) (Reps.one (show Kd.M Kd.string _ _ _ (⟨#[32]⟩ : ByteArray) [.string (⟨#[32]⟩ : ByteArray)] from rfl) (Reps.none _ _))))
                                  intro v144 w22 ho23 hb hg_ hnew_
                                  clear hg_ hnew_
                                  (first | rw [← Ny143.out] at ho23 | (simp only [Int.reduceToNat] at ho23; rw [← Ny143.out] at ho23))
                                  have n0_ := Aside0.mk (Kd.R_lower ho23 (below_size (by repeat (first | (with_reducible first | exact HB.out | apply below_alloc | apply pw_below_drewN | apply below_drew1) | exact HB.out))))
                                  have n2_ := Aside0.mk (below_step (by repeat (first | (with_reducible first | exact HB.out | apply below_alloc | apply pw_below_drewN | apply below_drew1) | exact HB.out)) hb)
                                  have z_HI125 := fun (h0_ : b 3 = false) => (show IsS102 w w22 g125 t122 x126001_1 x126002_1 from by first | exact (IsS102.below (by repeat (first | (with_reducible first | exact (Q_HI125 h0_) | apply IsS102.alloc | apply IsS102.drewN | apply IsS102.drew | apply IsS102.set_1 | apply IsS102.set_2) | exact (Q_HI125 h0_))) hb))
                                  have z_HO131 := fun (h0_ : b 1 = true) => (show Kd.R Kd.string 9 w22 w.heap.size (fun _ => True) v130 y129 from by first | exact (Kd.R_elder' (by (with_reducible repeat (first | apply Kd.R_alloc | apply Kd.R_drewN | apply Kd.R_drew)); exact (Q_HO131 h0_)) (Kd.R_base ho23) hb) | exact Kd.R_mono (Kd.R_elder' (by (with_reducible repeat (first | apply Kd.R_alloc | apply Kd.R_drewN | apply Kd.R_drew)); exact (Q_HO131 h0_)) (Kd.R_base ho23) hb) (fun _ h_ => by first | trivial | exact h_ | exact h_.1))
                                  have z_HI125_e3 := fun (h0_ : b 3 = true) (h1_ : b 9 = false) => (show IsS102 w w22 g125 t122 t133 t134 from by first | exact (IsS102.below (by repeat (first | (with_reducible first | exact (Q_HI125_e3 h0_ h1_) | apply IsS102.alloc | apply IsS102.drewN | apply IsS102.drew | apply IsS102.set_1 | apply IsS102.set_2) | exact (Q_HI125_e3 h0_ h1_))) hb))
                                  have z_HO138 := fun (h0_ : b 7 = true) => (show Kd.R Kd.string 9 w22 w.heap.size (fun _ => True) v137 y136 from by first | exact (Kd.R_elder' (by (with_reducible repeat (first | apply Kd.R_alloc | apply Kd.R_drewN | apply Kd.R_drew)); exact (Q_HO138 h0_)) (Kd.R_base ho23) hb) | exact Kd.R_mono (Kd.R_elder' (by (with_reducible repeat (first | apply Kd.R_alloc | apply Kd.R_drewN | apply Kd.R_drew)); exact (Q_HO138 h0_)) (Kd.R_base ho23) hb) (fun _ h_ => by first | trivial | exact h_ | exact h_.1))
                                  have z_HI125_e9 := fun (h0_ : b 9 = true) (h1_ : b 15 = false) => (show IsS102 w w22 g125 t122 t140 t141 from by first | exact (IsS102.below (by repeat (first | (with_reducible first | exact (Q_HI125_e9 h0_ h1_) | apply IsS102.alloc | apply IsS102.drewN | apply IsS102.drew | apply IsS102.set_1 | apply IsS102.set_2) | exact (Q_HI125_e9 h0_ h1_))) hb))
                                  have z_HI125_e15 := fun (h0_ : b 15 = true) => (show IsS102 w w22 g125 t122 t147 t148 from by first | exact (IsS102.below (by repeat (first | (with_reducible first | exact (Q_HI125_e15 h0_) | apply IsS102.alloc | apply IsS102.drewN | apply IsS102.drew | apply IsS102.set_1 | apply IsS102.set_2) | exact (Q_HI125_e15 h0_))) hb))
                                  clear HB
                                  have HO145 := n0_
                                  have HB := n2_
                                  clear n0_ n2_
                                  clear hb ho23
                                  obtain ⟨Ao24, co24, eo24⟩ := Kd.R_slice HO145.out
                                  subst eo24
                                  obtain ⟨ado24, fo24, _⟩ := Kd.at_string (Kd.R_reads' HO145.out).2.2 0 (by decide) (by rw [Ny143.out]; simp)
                                  cases fo24
                                  refine hK.out _ _ ⟨v130, adz_v130, v137, adz_v137, .slice (some ado24) y143.length co24, ado24, m4_, m10_, m16_, (by rw [ha.out]; exact putSel_upk 10 hb_ rfl rfl rfl), z_HI125, (by repeat (first | (with_reducible first | exact HB.out | apply below_alloc | apply pw_below_drewN | apply below_drew1) | exact HB.out)), z_HO131, Q_HA_HO131, z_HI125_e3, z_HO138, Q_HA_HO138, z_HI125_e9, fun _ => (by (with_reducible repeat (first | apply Kd.R_alloc | apply Kd.R_drewN | apply Kd.R_drew)); exact HO145.out), fun _ => ⟨_, rfl⟩, z_HI125_e15, Q_X4_, Q_X10_, fun h0_ => absurd ((hoff 16 (by kernel_rfl)).symm.trans h0_) (by decide)⟩
                                refine steps_cons ?_ ?_
                                · rintro b a w' ⟨v130, adz_v130, v137, adz_v137, v144, adz_v144, m4_, m10_, m16_, ha, Q_HI125, Q_HB, Q_HO131, Q_HA_HO131, Q_HI125_e3, Q_HO138, Q_HA_HO138, Q_HI125_e9, Q_HO145, Q_HA_HO145, Q_HI125_e15, Q_X4_, Q_X10_, Q_X16_⟩ hb_ hon hoff
                                  refine ⟨_, rfl, fun K hK => ?_⟩
                                  have e28 : a.tmps[28]? = some (.pointer (some ⟨g125, 0, none⟩)) := by rw [ha]; exact (putSel_off rfl).trans rfl
                                  replace ha := Aside0.mk ha
                                  have HB := Aside0.mk Q_HB
                                  have HI125 := Aside0.mk (Q_HI125_e9 (hon 9 (by kernel_rfl)) hb_)
                                  refine goes_ Tryd.func45 (by kernel_rfl) rfl #[.pointer (some ⟨g125, 0, none⟩), .int .i64 2] (by rfl) rfl rfl (by first | (simp only [List.map_toArray, List.map_cons, List.map_nil, Act.eval, Array.getD_eq_getD_getElem?, Option.getD_some, e28]; done) | (simp only [List.map_toArray, List.map_cons, List.map_nil, Act.eval, Array.getD_eq_getD_getElem?, Option.getD_some, e28]; rfl)) ?_
                                  with_reducible refine (spec_l01Src_next.calls g125 t122 t140 t141 2 t146 t147 t148 w _ ?side1 ?side2 A15.out).mono ?_
                                  (case side1 => repeat (first | (with_reducible first | exact HI125.out | apply IsS102.alloc | apply IsS102.drewN | apply IsS102.drew | apply IsS102.set_1 | apply IsS102.set_2) | exact HI125.out))
                                  (case side2 => repeat (first | (with_reducible first | exact HB.out | apply below_alloc | apply pw_below_drewN | apply below_drew1 | refine below_set ?_ (IsS102.ge HI125.out)) | exact HB.out))
                                  rintro e w25 ⟨rfl, hi, hb, hk⟩
                                  refine ⟨_, rfl, ?_⟩
                                  have n0_ := Aside0.mk (hb)
                                  have n1_ := Aside0.mk (hi)
                                  have z_HO131 := fun (h0_ : b 1 = true) => (show Kd.R Kd.string 9 w25 w.heap.size (fun _ => True) v130 y129 from by first | exact (Kd.R_mono (Kd.R_keep (IsS102.apart (show IsS102 w _ g125 t122 t140 t141 from by repeat (first | (with_reducible first | exact HI125.out | apply IsS102.alloc | apply IsS102.drewN | apply IsS102.drew | apply IsS102.set_1 | apply IsS102.set_2) | exact HI125.out)) (by (with_reducible repeat (first | apply Kd.R_alloc | apply Kd.R_drewN | apply Kd.R_drew)); exact (Q_HO131 h0_)) (by decide)) hk (fun _ h => h.2)) (fun _ h => h.1)) | exact Kd.R_mono (Kd.R_mono (Kd.R_keep (IsS102.apart (show IsS102 w _ g125 t122 t140 t141 from by repeat (first | (with_reducible first | exact HI125.out | apply IsS102.alloc | apply IsS102.drewN | apply IsS102.drew | apply IsS102.set_1 | apply IsS102.set_2) | exact HI125.out)) (by (with_reducible repeat (first | apply Kd.R_alloc | apply Kd.R_drewN | apply Kd.R_drew)); exact (Q_HO131 h0_)) (by decide)) hk (fun _ h => h.2)) (fun _ h => h.1)) (fun _ h_ => by first | trivial | exact h_ | exact h_.1))
                                  have z_HO138 := fun (h0_ : b 7 = true) => (show Kd.R Kd.string 9 w25 w.heap.size (fun _ => True) v137 y136 from by first | exact (Kd.R_mono (Kd.R_keep (IsS102.apart (show IsS102 w _ g125 t122 t140 t141 from by repeat (first | (with_reducible first | exact HI125.out | apply IsS102.alloc | apply IsS102.drewN | apply IsS102.drew | apply IsS102.set_1 | apply IsS102.set_2) | exact HI125.out)) (by (with_reducible repeat (first | apply Kd.R_alloc | apply Kd.R_drewN | apply Kd.R_drew)); exact (Q_HO138 h0_)) (by decide)) hk (fun _ h => h.2)) (fun _ h => h.1)) | exact Kd.R_mono (Kd.R_mono (Kd.R_keep (IsS102.apart (show IsS102 w _ g125 t122 t140 t141 from by repeat (first | (with_reducible first | exact HI125.out | apply IsS102.alloc | apply IsS102.drewN | apply IsS102.drew | apply IsS102.set_1 | apply IsS102.set_2) | exact HI125.out)) (by (with_reducible repeat (first | apply Kd.R_alloc | apply Kd.R_drewN | apply Kd.R_drew)); exact (Q_HO138 h0_)) (by decide)) hk (fun _ h => h.2)) (fun _ h => h.1)) (fun _ h_ => by first | trivial | exact h_ | exact h_.1))
                                  have z_HO145 := fun (h0_ : b 13 = true) => (show Kd.R Kd.string 9 w25 w.heap.size (fun _ => True) v144 y143 from by first | exact (Kd.R_mono (Kd.R_keep (IsS102.apart (show IsS102 w _ g125 t122 t140 t141 from by repeat (first | (with_reducible first | exact HI125.out | apply IsS102.alloc | apply IsS102.drewN | apply IsS102.drew | apply IsS102.set_1 | apply IsS102.set_2) | exact HI125.out)) (by (with_reducible repeat (first | apply Kd.R_alloc | apply Kd.R_drewN | apply Kd.R_drew)); exact (Q_HO145 h0_)) (by decide)) hk (fun _ h => h.2)) (fun _ h => h.1)) | exact Kd.R_mono (Kd.R_mono (Kd.R_keep (IsS102.apart (show IsS102 w _ g125 t122 t140 t141 from by repeat (first | (with_reducible first | exact HI125.out | apply IsS102.alloc | apply IsS102.drewN | apply IsS102.drew | apply IsS102.set_1 | apply IsS102.set_2) | exact HI125.out)) (by (with_reducible repeat (first | apply Kd.R_alloc | apply Kd.R_drewN | apply Kd.R_drew)); exact (Q_HO145 h0_)) (by decide)) hk (fun _ h => h.2)) (fun _ h => h.1)) (fun _ h_ => by first | trivial | exact h_ | exact h_.1))
                                  clear HB
                                  clear HI125
                                  have HB := n0_
                                  have HI125 := n1_
                                  clear n0_ n1_
                                  (try clear hb)
                                  (try clear hb2)
                                  (try clear hk)
                                  (try clear hi)
                                  refine hK.out _ _ ⟨v130, adz_v130, v137, adz_v137, v144, adz_v144, m4_, m10_, m16_, (by rw [ha.out]; exact putSel_upk 11 hb_ rfl rfl rfl), fun h0_ => absurd ((hon 3 (by kernel_rfl)).symm.trans h0_) (by decide), (by repeat (first | (with_reducible first | exact HB.out | apply below_alloc | apply pw_below_drewN | apply below_drew1 | refine below_set ?_ (IsS102.ge HI125.out)) | exact HB.out)), z_HO131, Q_HA_HO131, fun _ h1_ => absurd ((hon 9 (by kernel_rfl)).symm.trans h1_) (by decide), z_HO138, Q_HA_HO138, fun _ h1_ => absurd ((up_self b 15).symm.trans h1_) (by decide), z_HO145, Q_HA_HO145, fun _ => (by repeat (first | (with_reducible first | exact HI125.out | apply IsS102.alloc | apply IsS102.drewN | apply IsS102.drew | apply IsS102.set_1 | apply IsS102.set_2) | exact HI125.out)), Q_X4_, Q_X10_, fun h0_ => absurd ((hoff 16 (by kernel_rfl)).symm.trans h0_) (by decide)⟩
                                refine steps_cons ?_ ?_
                                · rintro b a w' ⟨v130, adz_v130, v137, adz_v137, v144, adz_v144, m4_, m10_, m16_, ha, Q_HI125, Q_HB, Q_HO131, Q_HA_HO131, Q_HI125_e3, Q_HO138, Q_HA_HO138, Q_HI125_e9, Q_HO145, Q_HA_HO145, Q_HI125_e15, Q_X4_, Q_X10_, Q_X16_⟩ hb_ hon hoff
                                  refine ⟨_, rfl, fun K hK => ?_⟩
                                  have e27 : a.tmps[27]? = some (v144) := by rw [ha]; exact putSel_on (e := (13, 27, v144)) 10 rfl rfl (hon 13 (by kernel_rfl)) rfl
                                  have e29 : a.tmps[29]? = some (.int .i64 t146) := by rw [ha]; exact putSel_on (e := (15, 29, .int .i64 t146)) 11 rfl rfl (hon 15 (by kernel_rfl)) rfl
                                  replace ha := Aside0.mk ha
                                  have HB := Aside0.mk Q_HB
                                  have HO145 := Aside0.mk (Q_HO145 (hon 13 (by kernel_rfl)))
                                  have HA_HO145 := Aside0.mk (Q_HA_HO145 (hon 13 (by kernel_rfl)))
                                  have HI125 := Aside0.mk (Q_HI125_e15 (hon 15 (by kernel_rfl)))
                                  obtain ⟨c_, hv_⟩ := HA_HO145.out
                                  rw [hv_] at e27
                                  refine value_ (w1 := w') (v := .pointer (some (adz_v144.add (t146).toNat))) (by rfl) rfl ?_ ?_
                                  · go_simp
                                    (try simp only [i64_w])
                                    try rfl
                                  refine hK.out _ _ ⟨v130, adz_v130, v137, adz_v137, v144, adz_v144, m4_, m10_, (.pointer (some (adz_v144.add (t146).toNat))), (by rw [ha.out]; exact putSel_upk 12 hb_ rfl rfl rfl), fun h0_ => absurd ((hon 3 (by kernel_rfl)).symm.trans h0_) (by decide), Q_HB, Q_HO131, Q_HA_HO131, fun _ h1_ => absurd ((hon 9 (by kernel_rfl)).symm.trans h1_) (by decide), Q_HO138, Q_HA_HO138, fun _ h1_ => absurd ((hon 15 (by kernel_rfl)).symm.trans h1_) (by decide), Q_HO145, Q_HA_HO145, Q_HI125_e15, Q_X4_, Q_X10_, fun _ => rfl⟩
                                refine steps_cons ?_ ?_
                                · rintro b a w' ⟨v130, adz_v130, v137, adz_v137, v144, adz_v144, m4_, m10_, m16_, ha, Q_HI125, Q_HB, Q_HO131, Q_HA_HO131, Q_HI125_e3, Q_HO138, Q_HA_HO138, Q_HI125_e9, Q_HO145, Q_HA_HO145, Q_HI125_e15, Q_X4_, Q_X10_, Q_X16_⟩ hb_ hon hoff
                                  refine ⟨_, rfl, fun K hK => ?_⟩
                                  have e30 : a.tmps[30]? = some (m16_) := by rw [ha]; exact putSel_on (e := (16, 30, m16_)) 12 rfl rfl (hon 16 (by kernel_rfl)) rfl
                                  rw [Q_X16_ (hon 16 (by kernel_rfl))] at e30
                                  replace ha := Aside0.mk ha
                                  have HB := Aside0.mk Q_HB
                                  have HO145 := Aside0.mk (Q_HO145 (hon 13 (by kernel_rfl)))
                                  have HA_HO145 := Aside0.mk (Q_HA_HO145 (hon 13 (by kernel_rfl)))
                                  have HI125 := Aside0.mk (Q_HI125_e15 (hon 15 (by kernel_rfl)))
                                  obtain ⟨c_, hv_⟩ := HA_HO145.out
                                  have hF_ := HO145.out
                                  rw [hv_] at hF_
                                  obtain ⟨ad_, ea_, hx_⟩ := Kd.at_string (Kd.R_reads' hF_).2.2 t146 (of_eq_true pi149) (of_eq_true qi149)
                                  cases ea_
                                  refine value_ (w1 := w') (v := .string (rdOf ByteArray.empty y143 t146)) (by rfl) rfl ?_ ?_
                                  · go_simp
                                    (try simp only [i64_w])
                                    try rfl
                                  refine hK.out _ _ ⟨v130, adz_v130, v137, adz_v137, v144, adz_v144, m4_, m10_, m16_, (by rw [ha.out]; exact putSel_upk 13 hb_ rfl rfl rfl), fun h0_ => absurd ((hon 3 (by kernel_rfl)).symm.trans h0_) (by decide), Q_HB, Q_HO131, Q_HA_HO131, fun _ h1_ => absurd ((hon 9 (by kernel_rfl)).symm.trans h1_) (by decide), Q_HO138, Q_HA_HO138, fun _ h1_ => absurd ((hon 15 (by kernel_rfl)).symm.trans h1_) (by decide), Q_HO145, Q_HA_HO145, Q_HI125_e15, Q_X4_, Q_X10_, Q_X16_⟩
                                refine steps_cons ?_ ?_
                                · rintro b a w' ⟨v130, adz_v130, v137, adz_v137, v144, adz_v144, m4_, m10_, m16_, ha, Q_HI125, Q_HB, Q_HO131, Q_HA_HO131, Q_HI125_e3, Q_HO138, Q_HA_HO138, Q_HI125_e9, Q_HO145, Q_HA_HO145, Q_HI125_e15, Q_X4_, Q_X10_, Q_X16_⟩ hb_ hon hoff
                                  refine ⟨_, rfl, fun K hK => ?_⟩
                                  have e26 : a.tmps[26]? = some (.string ((x4_1 ++ (rdOf ByteArray.empty y129 t132)) ++ (rdOf ByteArray.empty y136 t139))) := by rw [ha]; exact putSel_on (e := (12, 26, .string ((x4_1 ++ (rdOf ByteArray.empty y129 t132)) ++ (rdOf ByteArray.empty y136 t139)))) 9 rfl rfl (hon 12 (by kernel_rfl)) rfl
                                  have e31 : a.tmps[31]? = some (.string (rdOf ByteArray.empty y143 t146)) := by rw [ha]; exact putSel_on (e := (17, 31, .string (rdOf ByteArray.empty y143 t146))) 13 rfl rfl (hon 17 (by kernel_rfl)) rfl
                                  replace ha := Aside0.mk ha
                                  have HB := Aside0.mk Q_HB
                                  have HO131 := Aside0.mk (Q_HO131 (hon 1 (by kernel_rfl)))
                                  have HA_HO131 := Aside0.mk (Q_HA_HO131 (hon 1 (by kernel_rfl)))
                                  have HO138 := Aside0.mk (Q_HO138 (hon 7 (by kernel_rfl)))
                                  have HA_HO138 := Aside0.mk (Q_HA_HO138 (hon 7 (by kernel_rfl)))
                                  have HO145 := Aside0.mk (Q_HO145 (hon 13 (by kernel_rfl)))
                                  have HA_HO145 := Aside0.mk (Q_HA_HO145 (hon 13 (by kernel_rfl)))
                                  have HI125 := Aside0.mk (Q_HI125_e15 (hon 15 (by kernel_rfl)))
                                  refine value_ (w1 := w') (v := .string (((x4_1 ++ (rdOf ByteArray.empty y129 t132)) ++ (rdOf ByteArray.empty y136 t139)) ++ (rdOf ByteArray.empty y143 t146))) (by rfl) rfl ?_ ?_
                                  · go_simp
                                    (try simp only [i64_w])
                                    try rfl
                                  refine hK.out _ _ ⟨v130, adz_v130, v137, adz_v137, v144, adz_v144, m4_, m10_, m16_, (by rw [ha.out]; exact putSel_upk 14 hb_ rfl rfl rfl), fun h0_ => absurd ((hon 3 (by kernel_rfl)).symm.trans h0_) (by decide), Q_HB, Q_HO131, Q_HA_HO131, fun _ h1_ => absurd ((hon 9 (by kernel_rfl)).symm.trans h1_) (by decide), Q_HO138, Q_HA_HO138, fun _ h1_ => absurd ((hon 15 (by kernel_rfl)).symm.trans h1_) (by decide), Q_HO145, Q_HA_HO145, Q_HI125_e15, Q_X4_, Q_X10_, Q_X16_⟩
                                refine steps_cons ?_ ?_
                                · rintro b a w' ⟨v130, adz_v130, v137, adz_v137, v144, adz_v144, m4_, m10_, m16_, ha, Q_HI125, Q_HB, Q_HO131, Q_HA_HO131, Q_HI125_e3, Q_HO138, Q_HA_HO138, Q_HI125_e9, Q_HO145, Q_HA_HO145, Q_HI125_e15, Q_X4_, Q_X10_, Q_X16_⟩ hb_ hon hoff
                                  refine ⟨_, rfl, fun K hK => ?_⟩
                                  have e32 : a.tmps[32]? = some (.string (((x4_1 ++ (rdOf ByteArray.empty y129 t132)) ++ (rdOf ByteArray.empty y136 t139)) ++ (rdOf ByteArray.empty y143 t146))) := by rw [ha]; exact putSel_on (e := (18, 32, .string (((x4_1 ++ (rdOf ByteArray.empty y129 t132)) ++ (rdOf ByteArray.empty y136 t139)) ++ (rdOf ByteArray.empty y143 t146)))) 14 rfl rfl (hon 18 (by kernel_rfl)) rfl
                                  replace ha := Aside0.mk ha
                                  have HB := Aside0.mk Q_HB
                                  have HO131 := Aside0.mk (Q_HO131 (hon 1 (by kernel_rfl)))
                                  have HA_HO131 := Aside0.mk (Q_HA_HO131 (hon 1 (by kernel_rfl)))
                                  have HO138 := Aside0.mk (Q_HO138 (hon 7 (by kernel_rfl)))
                                  have HA_HO138 := Aside0.mk (Q_HA_HO138 (hon 7 (by kernel_rfl)))
                                  have HO145 := Aside0.mk (Q_HO145 (hon 13 (by kernel_rfl)))
                                  have HA_HO145 := Aside0.mk (Q_HA_HO145 (hon 13 (by kernel_rfl)))
                                  have HI125 := Aside0.mk (Q_HI125_e15 (hon 15 (by kernel_rfl)))
                                  refine value_ (w1 := w') (v := .string (((x4_1 ++ (rdOf ByteArray.empty y129 t132)) ++ (rdOf ByteArray.empty y136 t139)) ++ (rdOf ByteArray.empty y143 t146))) (by rfl) rfl ?_ ?_
                                  · go_simp
                                    (try simp only [i64_w])
                                    try rfl
                                  refine hK.out _ _ ⟨v130, adz_v130, v137, adz_v137, v144, adz_v144, m4_, m10_, m16_, (by rw [ha.out]; exact putSel_upk 15 hb_ rfl rfl rfl), fun h0_ => absurd ((hon 3 (by kernel_rfl)).symm.trans h0_) (by decide), Q_HB, Q_HO131, Q_HA_HO131, fun _ h1_ => absurd ((hon 9 (by kernel_rfl)).symm.trans h1_) (by decide), Q_HO138, Q_HA_HO138, fun _ h1_ => absurd ((hon 15 (by kernel_rfl)).symm.trans h1_) (by decide), Q_HO145, Q_HA_HO145, Q_HI125_e15, Q_X4_, Q_X10_, Q_X16_⟩
                                exact steps_nil
                              rintro b a w34 hall ⟨v130, adz_v130, v137, adz_v137, v144, adz_v144, m4_, m10_, m16_, ha, Q_HI125, Q_HB, Q_HO131, Q_HA_HO131, Q_HI125_e3, Q_HO138, Q_HA_HO138, Q_HI125_e9, Q_HO145, Q_HA_HO145, Q_HI125_e15, Q_X4_, Q_X10_, Q_X16_⟩
                              clear HB HI125
                              have hb1_ := hall 1 (by kernel_rfl)
                              have hb3_ := hall 3 (by kernel_rfl)
                              have hb4_ := hall 4 (by kernel_rfl)
                              have hb5_ := hall 5 (by kernel_rfl)
                              have hb6_ := hall 6 (by kernel_rfl)
                              have hb7_ := hall 7 (by kernel_rfl)
                              have hb9_ := hall 9 (by kernel_rfl)
                              have hb10_ := hall 10 (by kernel_rfl)
                              have hb11_ := hall 11 (by kernel_rfl)
                              have hb12_ := hall 12 (by kernel_rfl)
                              have hb13_ := hall 13 (by kernel_rfl)
                              have hb15_ := hall 15 (by kernel_rfl)
                              have hb16_ := hall 16 (by kernel_rfl)
                              have hb17_ := hall 17 (by kernel_rfl)
                              have hb18_ := hall 18 (by kernel_rfl)
                              have hb19_ := hall 19 (by kernel_rfl)
                              subst ha
                              obtain rfl := Q_X4_ hb4_
                              obtain rfl := Q_X10_ hb10_
                              obtain rfl := Q_X16_ hb16_
                              simp only [putSel, hb1_, hb3_, hb4_, hb5_, hb6_, hb7_, hb9_, hb10_, hb11_, hb12_, hb13_, hb15_, hb16_, hb17_, hb18_, hb19_, if_true, Act.put, List.setIfInBounds_toArray, List.set_cons_zero, List.set_cons_succ]
                              clear Q_HI125
                              have HB := Aside0.mk Q_HB
                              clear Q_HB
                              have HO131 := Aside0.mk (Q_HO131 hb1_)
                              clear Q_HO131
                              have HA_HO131 := Aside0.mk (Q_HA_HO131 hb1_)
                              clear Q_HA_HO131
                              clear Q_HI125_e3
                              have HO138 := Aside0.mk (Q_HO138 hb7_)
                              clear Q_HO138
                              have HA_HO138 := Aside0.mk (Q_HA_HO138 hb7_)
                              clear Q_HA_HO138
                              clear Q_HI125_e9
                              have HO145 := Aside0.mk (Q_HO145 hb13_)
                              clear Q_HO145
                              have HA_HO145 := Aside0.mk (Q_HA_HO145 hb13_)
                              clear Q_HA_HO145
                              have HI125 := Aside0.mk (Q_HI125_e15 hb15_)
                              clear Q_HI125_e15
                              clear hall hb1_ hb3_ hb4_ hb5_ hb6_ hb7_ hb9_ hb10_ hb11_ hb12_ hb13_ hb15_ hb16_ hb17_ hb18_ hb19_
                              obtain ⟨co35, eo35⟩ := HA_HO131.out
                              clear HA_HO131
                              subst eo35
                              obtain ⟨co36, eo36⟩ := HA_HO138.out
                              clear HA_HO138
                              subst eo36
                              obtain ⟨co37, eo37⟩ := HA_HO145.out
                              clear HA_HO145
                              subst eo37
                              try go_wp2
                              go_roundg k1
                              case measure => have := HK1.out; omega
                              case rel => exact ⟨((((x4_1 ++ (rdOf ByteArray.empty y129 t132)) ++ (rdOf ByteArray.empty y136 t139)) ++ (rdOf ByteArray.empty y143 t146)) ++ (⟨#[44]⟩ : ByteArray)), (wrap64 (x5_1 - 1)), (t147), (t148), (by first | rfl | (simp; done) | (simp [*]; done)), (by first | rfl | (simp; done) | (simp [*]; done)), H', ⟨by have := HK1.out; omega⟩, ⟨by repeat (first | (with_reducible first | exact HI125.out | apply IsS102.alloc | apply IsS102.drewN | apply IsS102.drew | apply IsS102.set_1 | apply IsS102.set_2) | exact HI125.out)⟩, ⟨by repeat (first | (with_reducible first | exact HB.out | apply below_alloc | apply pw_below_drewN | apply below_drew1 | refine below_set ?_ (IsS102.ge HI125.out)) | exact HB.out)⟩⟩
                            · rw [if_neg c20] at H
                              exact absurd H (by simp)
                          · rw [if_neg c19] at H
                            have c19b0 : decide (1 < x5_1) = false := decide_eq_false c19
                            clear c19
                            replace H := Option.bind_eq_some_iff.mp H
                            obtain ⟨⟨t150, t151, t152⟩, A380, H⟩ := H
                            replace H : (if t150 = true then (if (((x4_1 ++ (rdOf ByteArray.empty y129 t132)) ++ (rdOf ByteArray.empty y136 t139)) ++ (rdOf ByteArray.empty y143 t146)).size + 1 ≤ 9223372036854775807 then (spec_DrawReadPriority.l0 k1 ((((x4_1 ++ (rdOf ByteArray.empty y129 t132)) ++ (rdOf ByteArray.empty y136 t139)) ++ (rdOf ByteArray.empty y143 t146)) ++ (⟨#[44]⟩ : ByteArray)) (wrap64 (x5_1 - 1)) t122 t151 t152) else (none)) else (spec_DrawReadPriority.l0 k1 (((x4_1 ++ (rdOf ByteArray.empty y129 t132)) ++ (rdOf ByteArray.empty y136 t139)) ++ (rdOf ByteArray.empty y143 t146)) (wrap64 (x5_1 - 1)) t122 t151 t152)) = some r := H
                            have A38 := Aside0.mk A380
                            clear A380
                            by_cases c39 : t150 = true
                            · subst c39
                              have H1 : (if (((x4_1 ++ (rdOf ByteArray.empty y129 t132)) ++ (rdOf ByteArray.empty y136 t139)) ++ (rdOf ByteArray.empty y143 t146)).size + 1 ≤ 9223372036854775807 then (spec_DrawReadPriority.l0 k1 ((((x4_1 ++ (rdOf ByteArray.empty y129 t132)) ++ (rdOf ByteArray.empty y136 t139)) ++ (rdOf ByteArray.empty y143 t146)) ++ (⟨#[44]⟩ : ByteArray)) (wrap64 (x5_1 - 1)) t122 t151 t152) else (none)) = some r := by rw [if_pos rfl] at H; exact H
                              clear H
                              have H := H1
                              clear H1
                              by_cases c40 : (((x4_1 ++ (rdOf ByteArray.empty y129 t132)) ++ (rdOf ByteArray.empty y136 t139)) ++ (rdOf ByteArray.empty y143 t146)).size + 1 ≤ 9223372036854775807
                              · rw [if_pos c40] at H
                                have c40b0 := eq_true c40
                                (try have c40b3 := (by have z_ := c40; simp only [ByteArray.size_append] at z_; exact eq_true z_))
                                (try have c40b4 := (by have z_ := Nat.not_lt.2 c40; simp only [ByteArray.size_append] at z_; exact eq_false z_))
                                have c40b1 : decide ((((x4_1 ++ (rdOf ByteArray.empty y129 t132)) ++ (rdOf ByteArray.empty y136 t139)) ++ (rdOf ByteArray.empty y143 t146)).size + 1 ≤ 9223372036854775807) = true := decide_eq_true c40
                                try have c40b2 : (9223372036854775807 < (((x4_1 ++ (rdOf ByteArray.empty y129 t132)) ++ (rdOf ByteArray.empty y136 t139)) ++ (rdOf ByteArray.empty y143 t146)).size + 1) = False := eq_false (Nat.not_lt.2 c40)
                                have H' := Aside0.mk H
                                clear H
                                try go_wp2
                                have pi135 : (0 ≤ (t132 : Int)) = True := eq_true (of_decide_eq_true (by first | (with_reducible assumption) | assumption))
                                have qi135 : (t132 < (y129.length : Int)) = True := eq_true (of_decide_eq_true (by first | (with_reducible assumption) | assumption))
                                have pi142 : (0 ≤ (t139 : Int)) = True := eq_true (of_decide_eq_true (by first | (with_reducible assumption) | assumption))
                                have qi142 : (t139 < (y136.length : Int)) = True := eq_true (of_decide_eq_true (by first | (with_reducible assumption) | assumption))
                                have pi149 : (0 ≤ (t146 : Int)) = True := eq_true (of_decide_eq_true (by first | (with_reducible assumption) | assumption))
                                have qi149 : (t146 < (y143.length : Int)) = True := eq_true (of_decide_eq_true (by first | (with_reducible assumption) | assumption))
                                have n0_ := Aside0.mk (IsS102.drew HI125.out)
                                have n1_ := Aside0.mk (below_drew1 HB.out)
                                clear HI125
                                clear HB
                                have HI125 := n0_
                                have HB := n1_
                                clear n0_ n1_
                                refine start_ (n := 20) (S := fun w' => True) (ds := []) #[false, false, false, false, false, false, false, false, false, false, false, false, false, false, false, false, false, false, false, false] (by kernel_rfl) rfl rfl trivial (fun hHeld => ?_); refine with_tabW spec_DrawReadPriority.tab6 spec_DrawReadPriority.bits6 (fun HT_ HW_ => ?_)
                                generalize wr.drew = w41 at HI125 HB hHeld ⊢
                                refine pure_ (i := 0) (N := some 14) (v := ?_) (a' := ?_) #[true, false, false, false, false, false, false, false, false, false, false, false, false, false, false, false, false, false, false, false] rfl rfl (any_of HT_.out (by kernel_rfl)) (fun _ _ _ h => h) (Or.inl ⟨by rfl, ?_⟩) ?_ ?_
                                rotate_left
                                · intro w'
                                  go_simp
                                  with_reducible rfl
                                rotate_left
                                · simp only [Act.put, List.setIfInBounds_toArray, List.set_cons_zero, List.set_cons_succ, i64_w, i32_w]
                                  rfl
                                refine pure_ (i := 2) (N := some 16) (v := ?_) (a' := ?_) #[true, false, true, false, false, false, false, false, false, false, false, false, false, false, false, false, false, false, false, false] rfl rfl (any_of HT_.out (by kernel_rfl)) (fun _ _ _ h => h) (Or.inl ⟨by rfl, ?_⟩) ?_ ?_
                                rotate_left
                                · intro w'
                                  go_simp
                                  with_reducible rfl
                                rotate_left
                                · simp only [Act.put, List.setIfInBounds_toArray, List.set_cons_zero, List.set_cons_succ, i64_w, i32_w]
                                  rfl
                                refine pure_ (i := 8) (N := some 22) (v := ?_) (a' := ?_) #[true, false, true, false, false, false, false, false, true, false, false, false, false, false, false, false, false, false, false, false] rfl rfl (any_of HT_.out (by kernel_rfl)) (fun _ _ _ h => h) (Or.inl ⟨by rfl, ?_⟩) ?_ ?_
                                rotate_left
                                · intro w'
                                  go_simp
                                  with_reducible rfl
                                rotate_left
                                · simp only [Act.put, List.setIfInBounds_toArray, List.set_cons_zero, List.set_cons_succ, i64_w, i32_w]
                                  rfl
                                refine pure_ (i := 14) (N := some 28) (v := ?_) (a' := ?_) #[true, false, true, false, false, false, false, false, true, false, false, false, false, false, true, false, false, false, false, false] rfl rfl (any_of HT_.out (by kernel_rfl)) (fun _ _ _ h => h) (Or.inl ⟨by rfl, ?_⟩) ?_ ?_
                                rotate_left
                                · intro w'
                                  go_simp
                                  with_reducible rfl
                                rotate_left
                                · simp only [Act.put, List.setIfInBounds_toArray, List.set_cons_zero, List.set_cons_succ, i64_w, i32_w]
                                  rfl
                                refine inv_at [1, 3, 4, 5, 6, 7, 9, 10, 11, 12, 13, 15, 16, 17, 18, 19] (fun a0_ b a w' => ∃ (v130 : Value) (adz_v130 : Addr) (v137 : Value) (adz_v137 : Addr) (v144 : Value) (adz_v144 : Addr) (m4_ : Value) (m10_ : Value) (m16_ : Value), a = putSel a0_ b [(1, 15, v130), (3, 17, .int .i64 t132), (4, 18, m4_), (5, 19, .string (rdOf ByteArray.empty y129 t132)), (6, 20, .string (x4_1 ++ (rdOf ByteArray.empty y129 t132))), (7, 21, v137), (9, 23, .int .i64 t139), (10, 24, m10_), (11, 25, .string (rdOf ByteArray.empty y136 t139)), (12, 26, .string ((x4_1 ++ (rdOf ByteArray.empty y129 t132)) ++ (rdOf ByteArray.empty y136 t139))), (13, 27, v144), (15, 29, .int .i64 t146), (16, 30, m16_), (17, 31, .string (rdOf ByteArray.empty y143 t146)), (18, 32, .string (((x4_1 ++ (rdOf ByteArray.empty y129 t132)) ++ (rdOf ByteArray.empty y136 t139)) ++ (rdOf ByteArray.empty y143 t146))), (19, 4, .string (((x4_1 ++ (rdOf ByteArray.empty y129 t132)) ++ (rdOf ByteArray.empty y136 t139)) ++ (rdOf ByteArray.empty y143 t146)))] ∧ (b 3 = false → IsS102 w w' g125 t122 x126001_1 x126002_1) ∧ (Below w.heap.size w w') ∧ (b 1 = true → Kd.R Kd.string 9 w' w.heap.size (fun _ => True) v130 y129) ∧ (b 1 = true → ∃ c_, (v130 : Value) = .slice (some adz_v130) y129.length c_) ∧ (b 3 = true → b 9 = false → IsS102 w w' g125 t122 t133 t134) ∧ (b 7 = true → Kd.R Kd.string 9 w' w.heap.size (fun _ => True) v137 y136) ∧ (b 7 = true → ∃ c_, (v137 : Value) = .slice (some adz_v137) y136.length c_) ∧ (b 9 = true → b 15 = false → IsS102 w w' g125 t122 t140 t141) ∧ (b 13 = true → Kd.R Kd.string 9 w' w.heap.size (fun _ => True) v144 y143) ∧ (b 13 = true → ∃ c_, (v144 : Value) = .slice (some adz_v144) y143.length c_) ∧ (b 15 = true → IsS102 w w' g125 t122 t147 t148) ∧ (b 4 = true → (m4_ : Value) = .pointer (some (adz_v130.add (t132).toNat))) ∧ (b 10 = true → (m10_ : Value) = .pointer (some (adz_v137.add (t139).toNat))) ∧ (b 16 = true → (m16_ : Value) = .pointer (some (adz_v144.add (t146).toNat)))) HT_.out HW_.out (by kernel_rfl) (by kernel_rfl) ?_ ?_ ?_
                                · exact ⟨.bool false, ⟨0, 0, none⟩, .bool false, ⟨0, 0, none⟩, .bool false, ⟨0, 0, none⟩, .bool false, .bool false, .bool false, by simp only [putSel, Bool.false_eq_true, if_false], fun _ => HI125.out, HB.out, fun h_ => absurd h_ (by decide), fun h_ => absurd h_ (by decide), fun h_ => absurd h_ (by decide), fun h_ => absurd h_ (by decide), fun h_ => absurd h_ (by decide), fun h_ => absurd h_ (by decide), fun h_ => absurd h_ (by decide), fun h_ => absurd h_ (by decide), fun h_ => absurd h_ (by decide), fun h_ => absurd h_ (by decide), fun h_ => absurd h_ (by decide), fun h_ => absurd h_ (by decide)⟩
                                · skip
                                  clear HB HI125
                                  refine steps_cons ?_ ?_
                                  · rintro b a w' ⟨v130, adz_v130, v137, adz_v137, v144, adz_v144, m4_, m10_, m16_, ha, Q_HI125, Q_HB, Q_HO131, Q_HA_HO131, Q_HI125_e3, Q_HO138, Q_HA_HO138, Q_HI125_e9, Q_HO145, Q_HA_HO145, Q_HI125_e15, Q_X4_, Q_X10_, Q_X16_⟩ hb_ hon hoff
                                    refine ⟨_, rfl, fun K hK => ?_⟩
                                    replace ha := Aside0.mk ha
                                    have HB := Aside0.mk Q_HB
                                    refine Kd.R_lit_step Kd.string _ 9 ?hg (N := 15) ?hd (xs := ([(⟨#[]⟩ : ByteArray), (⟨#[32]⟩ : ByteArray), (⟨#[32, 32]⟩ : ByteArray)] : List ByteArray)) (inner := [.string (⟨#[]⟩ : ByteArray), .string (⟨#[32]⟩ : ByteArray), .string (⟨#[32, 32]⟩ : ByteArray)]) (ok := fun _ => True) (okp := fun _ => True) ?hr ?hp (fun _ hk => hk) trivial (Below.refl _ _) (Nat.le_refl _) (by simp) ?_; (case hd => rfl); (case hg => rfl); (case hr => first | (go_simp; done) | (go_simp; rfl)); (case hp => exact (Reps.one (show Kd.M Kd.string _ _ _ (⟨#[]⟩ : ByteArray) [.string (⟨#[]⟩ : ByteArray)] from rfl) (Reps.one (show Kd.M Kd.string _ _ _ (⟨#[32]⟩ : ByteArray) [.string (⟨#[32]⟩ : ByteArray)] from rfl) (Reps.one (show Kd.M Kd.string _ _ _ (⟨#[32, 32]⟩ : ByteArray) [.string (⟨#[32, 32]⟩ : ByteArray)] from rfl) (Reps.none _ _)))))
                                    intro v130 w42 ho43 hb hg_ hnew_
                                    clear hg_ hnew_
                                    (first | rw [← Ny129.out] at ho43 | (simp only [Int.reduceToNat] at ho43; rw [← Ny129.out] at ho43))
                                    have n0_ := Aside0.mk (Kd.R_lower ho43 (below_size (by repeat (first | (with_reducible first | exact HB.out | apply below_alloc | apply pw_below_drewN | apply below_drew1) | exact HB.out))))
                                    have n2_ := Aside0.mk (below_step (by repeat (first | (with_reducible first | exact HB.out | apply below_alloc | apply pw_below_drewN | apply below_drew1) | exact HB.out)) hb)
                                    have z_HI125 := fun (h0_ : b 3 = false) => (show IsS102 w w42 g125 t122 x126001_1 x126002_1 from by first | exact (IsS102.below (by repeat (first | (with_reducible first | exact (Q_HI125 h0_) | apply IsS102.alloc | apply IsS102.drewN | apply IsS102.drew | apply IsS102.set_1 | apply IsS102.set_2) | exact (Q_HI125 h0_))) hb))
                                    have z_HI125_e3 := fun (h0_ : b 3 = true) (h1_ : b 9 = false) => (show IsS102 w w42 g125 t122 t133 t134 from by first | exact (IsS102.below (by repeat (first | (with_reducible first | exact (Q_HI125_e3 h0_ h1_) | apply IsS102.alloc | apply IsS102.drewN | apply IsS102.drew | apply IsS102.set_1 | apply IsS102.set_2) | exact (Q_HI125_e3 h0_ h1_))) hb))
                                    have z_HO138 := fun (h0_ : b 7 = true) => (show Kd.R Kd.string 9 w42 w.heap.size (fun _ => True) v137 y136 from by first | exact (Kd.R_elder' (by (with_reducible repeat (first | apply Kd.R_alloc | apply Kd.R_drewN | apply Kd.R_drew)); exact (Q_HO138 h0_)) (Kd.R_base ho43) hb) | exact Kd.R_mono (Kd.R_elder' (by (with_reducible repeat (first | apply Kd.R_alloc | apply Kd.R_drewN | apply Kd.R_drew)); exact (Q_HO138 h0_)) (Kd.R_base ho43) hb) (fun _ h_ => by first | trivial | exact h_ | exact h_.1))
                                    have z_HI125_e9 := fun (h0_ : b 9 = true) (h1_ : b 15 = false) => (show IsS102 w w42 g125 t122 t140 t141 from by first | exact (IsS102.below (by repeat (first | (with_reducible first | exact (Q_HI125_e9 h0_ h1_) | apply IsS102.alloc | apply IsS102.drewN | apply IsS102.drew | apply IsS102.set_1 | apply IsS102.set_2) | exact (Q_HI125_e9 h0_ h1_))) hb))
                                    have z_HO145 := fun (h0_ : b 13 = true) => (show Kd.R Kd.string 9 w42 w.heap.size (fun _ => True) v144 y143 from by first | exact (Kd.R_elder' (by (with_reducible repeat (first | apply Kd.R_alloc | apply Kd.R_drewN | apply Kd.R_drew)); exact (Q_HO145 h0_)) (Kd.R_base ho43) hb) | exact Kd.R_mono (Kd.R_elder' (by (with_reducible repeat (first | apply Kd.R_alloc | apply Kd.R_drewN | apply Kd.R_drew)); exact (Q_HO145 h0_)) (Kd.R_base ho43) hb) (fun _ h_ => by first | trivial | exact h_ | exact h_.1))
                                    have z_HI125_e15 := fun (h0_ : b 15 = true) => (show IsS102 w w42 g125 t122 t147 t148 from by first | exact (IsS102.below (by repeat (first | (with_reducible first | exact (Q_HI125_e15 h0_) | apply IsS102.alloc | apply IsS102.drewN | apply IsS102.drew | apply IsS102.set_1 | apply IsS102.set_2) | exact (Q_HI125_e15 h0_))) hb))
                                    clear HB
                                    have HO131 := n0_
                                    have HB := n2_
                                    clear n0_ n2_
                                    clear hb ho43
                                    obtain ⟨Ao44, co44, eo44⟩ := Kd.R_slice HO131.out
                                    subst eo44
                                    obtain ⟨ado44, fo44, _⟩ := Kd.at_string (Kd.R_reads' HO131.out).2.2 0 (by decide) (by rw [Ny129.out]; simp)
                                    cases fo44
                                    refine hK.out _ _ ⟨.slice (some ado44) y129.length co44, ado44, v137, adz_v137, v144, adz_v144, m4_, m10_, m16_, (by rw [ha.out]; exact putSel_upk 0 hb_ rfl rfl rfl), z_HI125, (by repeat (first | (with_reducible first | exact HB.out | apply below_alloc | apply pw_below_drewN | apply below_drew1) | exact HB.out)), fun _ => (by (with_reducible repeat (first | apply Kd.R_alloc | apply Kd.R_drewN | apply Kd.R_drew)); exact HO131.out), fun _ => ⟨_, rfl⟩, z_HI125_e3, z_HO138, Q_HA_HO138, z_HI125_e9, z_HO145, Q_HA_HO145, z_HI125_e15, fun h0_ => absurd ((hoff 4 (by kernel_rfl)).symm.trans h0_) (by decide), Q_X10_, Q_X16_⟩
                                  refine steps_cons ?_ ?_
                                  · rintro b a w' ⟨v130, adz_v130, v137, adz_v137, v144, adz_v144, m4_, m10_, m16_, ha, Q_HI125, Q_HB, Q_HO131, Q_HA_HO131, Q_HI125_e3, Q_HO138, Q_HA_HO138, Q_HI125_e9, Q_HO145, Q_HA_HO145, Q_HI125_e15, Q_X4_, Q_X10_, Q_X16_⟩ hb_ hon hoff
                                    refine ⟨_, rfl, fun K hK => ?_⟩
                                    have e16 : a.tmps[16]? = some (.pointer (some ⟨g125, 0, none⟩)) := by rw [ha]; exact (putSel_off rfl).trans rfl
                                    replace ha := Aside0.mk ha
                                    have HI125 := Aside0.mk (Q_HI125 hb_)
                                    have HB := Aside0.mk Q_HB
                                    refine goes_ Tryd.func45 (by kernel_rfl) rfl #[.pointer (some ⟨g125, 0, none⟩), .int .i64 3] (by rfl) rfl rfl (by first | (simp only [List.map_toArray, List.map_cons, List.map_nil, Act.eval, Array.getD_eq_getD_getElem?, Option.getD_some, e16]; done) | (simp only [List.map_toArray, List.map_cons, List.map_nil, Act.eval, Array.getD_eq_getD_getElem?, Option.getD_some, e16]; rfl)) ?_
                                    with_reducible refine (spec_l01Src_next.calls g125 t122 x126001_1 x126002_1 3 t132 t133 t134 w _ ?side1 ?side2 A7.out).mono ?_
                                    (case side1 => repeat (first | (with_reducible first | exact HI125.out | apply IsS102.alloc | apply IsS102.drewN | apply IsS102.drew | apply IsS102.set_1 | apply IsS102.set_2) | exact HI125.out))
                                    (case side2 => repeat (first | (with_reducible first | exact HB.out | apply below_alloc | apply pw_below_drewN | apply below_drew1 | refine below_set ?_ (IsS102.ge HI125.out)) | exact HB.out))
                                    rintro e w42 ⟨rfl, hi, hb, hk⟩
                                    refine ⟨_, rfl, ?_⟩
                                    have n0_ := Aside0.mk (hb)
                                    have n1_ := Aside0.mk (hi)
                                    have z_HO131 := fun (h0_ : b 1 = true) => (show Kd.R Kd.string 9 w42 w.heap.size (fun _ => True) v130 y129 from by first | exact (Kd.R_mono (Kd.R_keep (IsS102.apart (show IsS102 w _ g125 t122 x126001_1 x126002_1 from by repeat (first | (with_reducible first | exact HI125.out | apply IsS102.alloc | apply IsS102.drewN | apply IsS102.drew | apply IsS102.set_1 | apply IsS102.set_2) | exact HI125.out)) (by (with_reducible repeat (first | apply Kd.R_alloc | apply Kd.R_drewN | apply Kd.R_drew)); exact (Q_HO131 h0_)) (by decide)) hk (fun _ h => h.2)) (fun _ h => h.1)) | exact Kd.R_mono (Kd.R_mono (Kd.R_keep (IsS102.apart (show IsS102 w _ g125 t122 x126001_1 x126002_1 from by repeat (first | (with_reducible first | exact HI125.out | apply IsS102.alloc | apply IsS102.drewN | apply IsS102.drew | apply IsS102.set_1 | apply IsS102.set_2) | exact HI125.out)) (by (with_reducible repeat (first | apply Kd.R_alloc | apply Kd.R_drewN | apply Kd.R_drew)); exact (Q_HO131 h0_)) (by decide)) hk (fun _ h => h.2)) (fun _ h => h.1)) (fun _ h_ => by first | trivial | exact h_ | exact h_.1))
                                    have z_HO138 := fun (h0_ : b 7 = true) => (show Kd.R Kd.string 9 w42 w.heap.size (fun _ => True) v137 y136 from by first | exact (Kd.R_mono (Kd.R_keep (IsS102.apart (show IsS102 w _ g125 t122 x126001_1 x126002_1 from by repeat (first | (with_reducible first | exact HI125.out | apply IsS102.alloc | apply IsS102.drewN | apply IsS102.drew | apply IsS102.set_1 | apply IsS102.set_2) | exact HI125.out)) (by (with_reducible repeat (first | apply Kd.R_alloc | apply Kd.R_drewN | apply Kd.R_drew)); exact (Q_HO138 h0_)) (by decide)) hk (fun _ h => h.2)) (fun _ h => h.1)) | exact Kd.R_mono (Kd.R_mono (Kd.R_keep (IsS102.apart (show IsS102 w _ g125 t122 x126001_1 x126002_1 from by repeat (first | (with_reducible first | exact HI125.out | apply IsS102.alloc | apply IsS102.drewN | apply IsS102.drew | apply IsS102.set_1 | apply IsS102.set_2) | exact HI125.out)) (by (with_reducible repeat (first | apply Kd.R_alloc | apply Kd.R_drewN | apply Kd.R_drew)); exact (Q_HO138 h0_)) (by decide)) hk (fun _ h => h.2)) (fun _ h => h.1)) (fun _ h_ => by first | trivial | exact h_ | exact h_.1))
                                    have z_HO145 := fun (h0_ : b 13 = true) => (show Kd.R Kd.string 9 w42 w.heap.size (fun _ => True) v144 y143 from by first | exact (Kd.R_mono (Kd.R_keep (IsS102.apart (show IsS102 w _ g125 t122 x126001_1 x126002_1 from by repeat (first | (with_reducible first | exact HI125.out | apply IsS102.alloc | apply IsS102.drewN | apply IsS102.drew | apply IsS102.set_1 | apply IsS102.set_2) | exact HI125.out)) (by (with_reducible repeat (first | apply Kd.R_alloc | apply Kd.R_drewN | apply Kd.R_drew)); exact (Q_HO145 h0_)) (by decide)) hk (fun _ h => h.2)) (fun _ h => h.1)) | exact Kd.R_mono (Kd.R_mono (Kd.R_keep (IsS102.apart (show IsS102 w _ g125 t122 x126001_1 x126002_1 from by repeat (first | (with_reducible first | exact HI125.out | apply IsS102.alloc | apply IsS102.drewN | apply IsS102.drew | apply IsS102.set_1 | apply IsS102.set_2) | exact HI125.out)) (by (with_reducible repeat (first | apply Kd.R_alloc | apply Kd.R_drewN | apply Kd.R_drew)); exact (Q_HO145 h0_)) (by decide)) hk (fun _ h => h.2)) (fun _ h => h.1)) (fun _ h_ => by first | trivial | exact h_ | exact h_.1))
                                    clear HB
                                    clear HI125
                                    have HB := n0_
                                    have HI125 := n1_
                                    clear n0_ n1_
                                    (try clear hb)
                                    (try clear hb2)
                                    (try clear hk)
                                    (try clear hi)
                                    refine hK.out _ _ ⟨v130, adz_v130, v137, adz_v137, v144, adz_v144, m4_, m10_, m16_, (by rw [ha.out]; exact putSel_upk 1 hb_ rfl rfl rfl), fun h0_ => absurd ((up_self b 3).symm.trans h0_) (by decide), (by repeat (first | (with_reducible first | exact HB.out | apply below_alloc | apply pw_below_drewN | apply below_drew1 | refine below_set ?_ (IsS102.ge HI125.out)) | exact HB.out)), z_HO131, Q_HA_HO131, fun _ _ => (by repeat (first | (with_reducible first | exact HI125.out | apply IsS102.alloc | apply IsS102.drewN | apply IsS102.drew | apply IsS102.set_1 | apply IsS102.set_2) | exact HI125.out)), z_HO138, Q_HA_HO138, fun h0_ _ => absurd ((hoff 9 (by kernel_rfl)).symm.trans h0_) (by decide), z_HO145, Q_HA_HO145, fun h0_ => absurd ((hoff 15 (by kernel_rfl)).symm.trans h0_) (by decide), fun h0_ => absurd ((hoff 4 (by kernel_rfl)).symm.trans h0_) (by decide), fun h0_ => absurd ((hoff 10 (by kernel_rfl)).symm.trans h0_) (by decide), fun h0_ => absurd ((hoff 16 (by kernel_rfl)).symm.trans h0_) (by decide)⟩
                                  refine steps_cons ?_ ?_
                                  · rintro b a w' ⟨v130, adz_v130, v137, adz_v137, v144, adz_v144, m4_, m10_, m16_, ha, Q_HI125, Q_HB, Q_HO131, Q_HA_HO131, Q_HI125_e3, Q_HO138, Q_HA_HO138, Q_HI125_e9, Q_HO145, Q_HA_HO145, Q_HI125_e15, Q_X4_, Q_X10_, Q_X16_⟩ hb_ hon hoff
                                    refine ⟨_, rfl, fun K hK => ?_⟩
                                    have e15 : a.tmps[15]? = some (v130) := by rw [ha]; exact putSel_on (e := (1, 15, v130)) 0 rfl rfl (hon 1 (by kernel_rfl)) rfl
                                    have e17 : a.tmps[17]? = some (.int .i64 t132) := by rw [ha]; exact putSel_on (e := (3, 17, .int .i64 t132)) 1 rfl rfl (hon 3 (by kernel_rfl)) rfl
                                    replace ha := Aside0.mk ha
                                    have HB := Aside0.mk Q_HB
                                    have HO131 := Aside0.mk (Q_HO131 (hon 1 (by kernel_rfl)))
                                    have HA_HO131 := Aside0.mk (Q_HA_HO131 (hon 1 (by kernel_rfl)))
                                    obtain ⟨c_, hv_⟩ := HA_HO131.out
                                    rw [hv_] at e15
                                    refine value_ (w1 := w') (v := .pointer (some (adz_v130.add (t132).toNat))) (by rfl) rfl ?_ ?_
                                    · go_simp
                                      (try simp only [i64_w])
                                      try rfl
                                    refine hK.out _ _ ⟨v130, adz_v130, v137, adz_v137, v144, adz_v144, (.pointer (some (adz_v130.add (t132).toNat))), m10_, m16_, (by rw [ha.out]; exact putSel_upk 2 hb_ rfl rfl rfl), fun h0_ => absurd ((hon 3 (by kernel_rfl)).symm.trans h0_) (by decide), Q_HB, Q_HO131, Q_HA_HO131, Q_HI125_e3, Q_HO138, Q_HA_HO138, Q_HI125_e9, Q_HO145, Q_HA_HO145, Q_HI125_e15, fun _ => rfl, Q_X10_, Q_X16_⟩
                                  refine steps_cons ?_ ?_
                                  · rintro b a w' ⟨v130, adz_v130, v137, adz_v137, v144, adz_v144, m4_, m10_, m16_, ha, Q_HI125, Q_HB, Q_HO131, Q_HA_HO131, Q_HI125_e3, Q_HO138, Q_HA_HO138, Q_HI125_e9, Q_HO145, Q_HA_HO145, Q_HI125_e15, Q_X4_, Q_X10_, Q_X16_⟩ hb_ hon hoff
                                    refine ⟨_, rfl, fun K hK => ?_⟩
                                    have e18 : a.tmps[18]? = some (m4_) := by rw [ha]; exact putSel_on (e := (4, 18, m4_)) 2 rfl rfl (hon 4 (by kernel_rfl)) rfl
                                    rw [Q_X4_ (hon 4 (by kernel_rfl))] at e18
                                    replace ha := Aside0.mk ha
                                    have HB := Aside0.mk Q_HB
                                    have HO131 := Aside0.mk (Q_HO131 (hon 1 (by kernel_rfl)))
                                    have HA_HO131 := Aside0.mk (Q_HA_HO131 (hon 1 (by kernel_rfl)))
                                    obtain ⟨c_, hv_⟩ := HA_HO131.out
                                    have hF_ := HO131.out
                                    rw [hv_] at hF_
                                    obtain ⟨ad_, ea_, hx_⟩ := Kd.at_string (Kd.R_reads' hF_).2.2 t132 (of_eq_true pi135) (of_eq_true qi135)
                                    cases ea_
                                    refine value_ (w1 := w') (v := .string (rdOf ByteArray.empty y129 t132)) (by rfl) rfl ?_ ?_
                                    · go_simp
                                      (try simp only [i64_w])
                                      try rfl
                                    refine hK.out _ _ ⟨v130, adz_v130, v137, adz_v137, v144, adz_v144, m4_, m10_, m16_, (by rw [ha.out]; exact putSel_upk 3 hb_ rfl rfl rfl), fun h0_ => absurd ((hon 3 (by kernel_rfl)).symm.trans h0_) (by decide), Q_HB, Q_HO131, Q_HA_HO131, Q_HI125_e3, Q_HO138, Q_HA_HO138, Q_HI125_e9, Q_HO145, Q_HA_HO145, Q_HI125_e15, Q_X4_, Q_X10_, Q_X16_⟩
                                  refine steps_cons ?_ ?_
                                  · rintro b a w' ⟨v130, adz_v130, v137, adz_v137, v144, adz_v144, m4_, m10_, m16_, ha, Q_HI125, Q_HB, Q_HO131, Q_HA_HO131, Q_HI125_e3, Q_HO138, Q_HA_HO138, Q_HI125_e9, Q_HO145, Q_HA_HO145, Q_HI125_e15, Q_X4_, Q_X10_, Q_X16_⟩ hb_ hon hoff
                                    refine ⟨_, rfl, fun K hK => ?_⟩
                                    have e14 : a.tmps[14]? = some (.string x4_1) := by rw [ha]; exact (putSel_off rfl).trans rfl
                                    have e19 : a.tmps[19]? = some (.string (rdOf ByteArray.empty y129 t132)) := by rw [ha]; exact putSel_on (e := (5, 19, .string (rdOf ByteArray.empty y129 t132))) 3 rfl rfl (hon 5 (by kernel_rfl)) rfl
                                    replace ha := Aside0.mk ha
                                    have HB := Aside0.mk Q_HB
                                    have HO131 := Aside0.mk (Q_HO131 (hon 1 (by kernel_rfl)))
                                    have HA_HO131 := Aside0.mk (Q_HA_HO131 (hon 1 (by kernel_rfl)))
                                    refine value_ (w1 := w') (v := .string (x4_1 ++ (rdOf ByteArray.empty y129 t132))) (by rfl) rfl ?_ ?_
                                    · go_simp
                                      (try simp only [i64_w])
                                      try rfl
                                    refine hK.out _ _ ⟨v130, adz_v130, v137, adz_v137, v144, adz_v144, m4_, m10_, m16_, (by rw [ha.out]; exact putSel_upk 4 hb_ rfl rfl rfl), fun h0_ => absurd ((hon 3 (by kernel_rfl)).symm.trans h0_) (by decide), Q_HB, Q_HO131, Q_HA_HO131, Q_HI125_e3, Q_HO138, Q_HA_HO138, Q_HI125_e9, Q_HO145, Q_HA_HO145, Q_HI125_e15, Q_X4_, Q_X10_, Q_X16_⟩
                                  refine steps_cons ?_ ?_
                                  · rintro b a w' ⟨v130, adz_v130, v137, adz_v137, v144, adz_v144, m4_, m10_, m16_, ha, Q_HI125, Q_HB, Q_HO131, Q_HA_HO131, Q_HI125_e3, Q_HO138, Q_HA_HO138, Q_HI125_e9, Q_HO145, Q_HA_HO145, Q_HI125_e15, Q_X4_, Q_X10_, Q_X16_⟩ hb_ hon hoff
                                    refine ⟨_, rfl, fun K hK => ?_⟩
                                    replace ha := Aside0.mk ha
                                    have HB := Aside0.mk Q_HB
                                    refine Kd.R_lit_step Kd.string _ 9 ?hg (N := 21) ?hd (xs := ([(⟨#[117, 61, 48]⟩ : ByteArray), (⟨#[117, 61, 55]⟩ : ByteArray), (⟨#[117, 61, 56]⟩ : ByteArray), (⟨#[117, 61]⟩ : ByteArray), (⟨#[117, 61, 51, 51]⟩ : ByteArray), (⟨#[105]⟩ : ByteArray), (⟨#[105, 61, 63, 49]⟩ : ByteArray), (⟨#[105, 61, 63, 48]⟩ : ByteArray), (⟨#[105, 61, 49]⟩ : ByteArray), (⟨#[120, 61, 53]⟩ : ByteArray), (⟨#[85, 61, 49]⟩ : ByteArray), (⟨#[117, 32, 61, 49]⟩ : ByteArray)] : List ByteArray)) (inner := [.string (⟨#[117, 61, 48]⟩ : ByteArray), .string (⟨#[117, 61, 55]⟩ : ByteArray), .string (⟨#[117, 61, 56]⟩ : ByteArray), .string (⟨#[117, 61]⟩ : ByteArray), .string (⟨#[117, 61, 51, 51]⟩ : ByteArray), .string (⟨#[105]⟩ : ByteArray), .string (⟨#[105, 61, 63, 49]⟩ : ByteArray), .string (⟨#[105, 61, 63, 48]⟩ : ByteArray), .string (⟨#[105, 61, 49]⟩ : ByteArray), .string (⟨#[120, 61, 53]⟩ : ByteArray), .string (⟨#[85, 61, 49]⟩ : ByteArray), .string (⟨#[117, 32, 61, 49]⟩ : ByteArray)]) (ok := fun _ => True) (okp := fun _ => True) ?hr ?hp (fun _ hk => hk) trivial (Below.refl _ _) (Nat.le_refl _) (by simp) ?_; (case hd => rfl); (case hg => rfl); (case hr => first | (go_simp; done) | (go_simp; rfl)); (case hp => exact (Reps.one (show Kd.M Kd.string _ _ _ (⟨#[117, 61, 48]⟩ : ByteArray) [.string (⟨#[117, 61, 48]⟩ : ByteArray)] from rfl) (Reps.one (show Kd.M Kd.string _ _ _ (⟨#[117, 61, 55]⟩ : ByteArray) [.string (⟨#[117, 61, 55]⟩ : ByteArray)] from rfl) (Reps.one (show Kd.M Kd.string _ _ _ (⟨#[117, 61, 56]⟩ : ByteArray) [.string (⟨#[117, 61, 56]⟩ : ByteArray)] from rfl) (Reps.one (show Kd.M Kd.string _ _ _ (⟨#[117, 61]⟩ : ByteArray) [.string (⟨#[117, 61]⟩ : ByteArray)] from rfl) (Reps.one (show Kd.M Kd.string _ _ _ (⟨#[117, 61, 51, 51]⟩ : ByteArray) [.string (⟨#[117, 61, 51, 51]⟩ : ByteArray)] from rfl) (Reps.one (show Kd.M Kd.string _ _ _ (⟨#[105]⟩ : ByteArray) [.string (⟨#[105]⟩ : ByteArray)] from rfl) (Reps.one (show Kd.M Kd.string _ _ _ (⟨#[105, 61, 63, 49]⟩ : ByteArray) [.string (⟨#[105, 61, 63, 49]⟩ : ByteArray)] from rfl) (Reps.one (show Kd.M Kd.string _ _ _ (⟨#[105, 61, 63, 48]⟩ : ByteArray) [.string (⟨#[105, 61, 63, 48]⟩ : ByteArray)] from rfl) (Reps.one (show Kd.M Kd.string _ _ _ (⟨#[105, 61, 49]⟩ : ByteArray) [.string (⟨#[105, 61, 49]⟩ : ByteArray)] from rfl) (Reps.one (show Kd.M Kd.string _ _ _ (⟨#[120, 61, 53]⟩ : ByteArray) [.string (⟨#[120, 61, 53]⟩ : ByteArray)] from rfl) (Reps.one (show Kd.M Kd.string _ _ _ (⟨#[85, 61, 49]⟩ : ByteArray) [.string (⟨#[85, 61, 49]⟩ : ByteArray)] from rfl) (Reps.one (show Kd.M Kd.string _ _ _ (⟨#[117, 32, 61, 49]⟩ : ByteArray) [.string (⟨#[117, 32, 61, 49]⟩ : ByteArray)] from rfl) (Reps.none _ _))))))))))))))
                                    intro v137 w42 ho43 hb hg_ hnew_
                                    clear hg_ hnew_
                                    (first | rw [← Ny136.out] at ho43 | (simp only [Int.reduceToNat] at ho43; rw [← Ny136.out] at ho43))
                                    have n0_ := Aside0.mk (Kd.R_lower ho43 (below_size (by repeat (first | (with_reducible first | exact HB.out | apply below_alloc | apply pw_below_drewN | apply below_drew1) | exact HB.out))))
                                    have n2_ := Aside0.mk (below_step (by repeat (first | (with_reducible first | exact HB.out | apply below_alloc | apply pw_below_drewN | apply below_drew1) | exact HB.out)) hb)
                                    have z_HI125 := fun (h0_ : b 3 = false) => (show IsS102 w w42 g125 t122 x126001_1 x126002_1 from by first | exact (IsS102.below (by repeat (first | (with_reducible first | exact (Q_HI125 h0_) | apply IsS102.alloc | apply IsS102.drewN | apply IsS102.drew | apply IsS102.set_1 | apply IsS102.set_2) | exact (Q_HI125 h0_))) hb))
                                    have z_HO131 := fun (h0_ : b 1 = true) => (show Kd.R Kd.string 9 w42 w.heap.size (fun _ => True) v130 y129 from by first | exact (Kd.R_elder' (by (with_reducible repeat (first | apply Kd.R_alloc | apply Kd.R_drewN | apply Kd.R_drew)); exact (Q_HO131 h0_)) (Kd.R_base ho43) hb) | exact Kd.R_mono (Kd.R_elder' (by (with_reducible repeat (first | apply Kd.R_alloc | apply Kd.R_drewN | apply Kd.R_drew)); exact (Q_HO131 h0_)) (Kd.R_base ho43) hb) (fun _ h_ => by first | trivial | exact h_ | exact h_.1))
                                    have z_HI125_e3 := fun (h0_ : b 3 = true) (h1_ : b 9 = false) => (show IsS102 w w42 g125 t122 t133 t134 from by first | exact (IsS102.below (by repeat (first | (with_reducible first | exact (Q_HI125_e3 h0_ h1_) | apply IsS102.alloc | apply IsS102.drewN | apply IsS102.drew | apply IsS102.set_1 | apply IsS102.set_2) | exact (Q_HI125_e3 h0_ h1_))) hb))
                                    have z_HI125_e9 := fun (h0_ : b 9 = true) (h1_ : b 15 = false) => (show IsS102 w w42 g125 t122 t140 t141 from by first | exact (IsS102.below (by repeat (first | (with_reducible first | exact (Q_HI125_e9 h0_ h1_) | apply IsS102.alloc | apply IsS102.drewN | apply IsS102.drew | apply IsS102.set_1 | apply IsS102.set_2) | exact (Q_HI125_e9 h0_ h1_))) hb))
                                    have z_HO145 := fun (h0_ : b 13 = true) => (show Kd.R Kd.string 9 w42 w.heap.size (fun _ => True) v144 y143 from by first | exact (Kd.R_elder' (by (with_reducible repeat (first | apply Kd.R_alloc | apply Kd.R_drewN | apply Kd.R_drew)); exact (Q_HO145 h0_)) (Kd.R_base ho43) hb) | exact Kd.R_mono (Kd.R_elder' (by (with_reducible repeat (first | apply Kd.R_alloc | apply Kd.R_drewN | apply Kd.R_drew)); exact (Q_HO145 h0_)) (Kd.R_base ho43) hb) (fun _ h_ => by first | trivial | exact h_ | exact h_.1))
                                    have z_HI125_e15 := fun (h0_ : b 15 = true) => (show IsS102 w w42 g125 t122 t147 t148 from by first | exact (IsS102.below (by repeat (first | (with_reducible first | exact (Q_HI125_e15 h0_) | apply IsS102.alloc | apply IsS102.drewN | apply IsS102.drew | apply IsS102.set_1 | apply IsS102.set_2) | exact (Q_HI125_e15 h0_))) hb))
                                    clear HB
                                    have HO138 := n0_
                                    have HB := n2_
                                    clear n0_ n2_
                                    clear hb ho43
                                    obtain ⟨Ao44, co44, eo44⟩ := Kd.R_slice HO138.out
                                    subst eo44
                                    obtain ⟨ado44, fo44, _⟩ := Kd.at_string (Kd.R_reads' HO138.out).2.2 0 (by decide) (by rw [Ny136.out]; simp)
                                    cases fo44
                                    refine hK.out _ _ ⟨v130, adz_v130, .slice (some ado44) y136.length co44, ado44, v144, adz_v144, m4_, m10_, m16_, (by rw [ha.out]; exact putSel_upk 5 hb_ rfl rfl rfl), z_HI125, (by repeat (first | (with_reducible first | exact HB.out | apply below_alloc | apply pw_below_drewN | apply below_drew1) | exact HB.out)), z_HO131, Q_HA_HO131, z_HI125_e3, fun _ => (by (with_reducible repeat (first | apply Kd.R_alloc | apply Kd.R_drewN | apply Kd.R_drew)); exact HO138.out), fun _ => ⟨_, rfl⟩, z_HI125_e9, z_HO145, Q_HA_HO145, z_HI125_e15, Q_X4_, fun h0_ => absurd ((hoff 10 (by kernel_rfl)).symm.trans h0_) (by decide), Q_X16_⟩
                                  refine steps_cons ?_ ?_
                                  · rintro b a w' ⟨v130, adz_v130, v137, adz_v137, v144, adz_v144, m4_, m10_, m16_, ha, Q_HI125, Q_HB, Q_HO131, Q_HA_HO131, Q_HI125_e3, Q_HO138, Q_HA_HO138, Q_HI125_e9, Q_HO145, Q_HA_HO145, Q_HI125_e15, Q_X4_, Q_X10_, Q_X16_⟩ hb_ hon hoff
                                    refine ⟨_, rfl, fun K hK => ?_⟩
                                    have e22 : a.tmps[22]? = some (.pointer (some ⟨g125, 0, none⟩)) := by rw [ha]; exact (putSel_off rfl).trans rfl
                                    replace ha := Aside0.mk ha
                                    have HB := Aside0.mk Q_HB
                                    have HI125 := Aside0.mk (Q_HI125_e3 (hon 3 (by kernel_rfl)) hb_)
                                    refine goes_ Tryd.func45 (by kernel_rfl) rfl #[.pointer (some ⟨g125, 0, none⟩), .int .i64 12] (by rfl) rfl rfl (by first | (simp only [List.map_toArray, List.map_cons, List.map_nil, Act.eval, Array.getD_eq_getD_getElem?, Option.getD_some, e22]; done) | (simp only [List.map_toArray, List.map_cons, List.map_nil, Act.eval, Array.getD_eq_getD_getElem?, Option.getD_some, e22]; rfl)) ?_
                                    with_reducible refine (spec_l01Src_next.calls g125 t122 t133 t134 12 t139 t140 t141 w _ ?side1 ?side2 A11.out).mono ?_
                                    (case side1 => repeat (first | (with_reducible first | exact HI125.out | apply IsS102.alloc | apply IsS102.drewN | apply IsS102.drew | apply IsS102.set_1 | apply IsS102.set_2) | exact HI125.out))
                                    (case side2 => repeat (first | (with_reducible first | exact HB.out | apply below_alloc | apply pw_below_drewN | apply below_drew1 | refine below_set ?_ (IsS102.ge HI125.out)) | exact HB.out))
                                    rintro e w44 ⟨rfl, hi, hb, hk⟩
                                    refine ⟨_, rfl, ?_⟩
                                    have n0_ := Aside0.mk (hb)
                                    have n1_ := Aside0.mk (hi)
                                    have z_HO131 := fun (h0_ : b 1 = true) => (show Kd.R Kd.string 9 w44 w.heap.size (fun _ => True) v130 y129 from by first | exact (Kd.R_mono (Kd.R_keep (IsS102.apart (show IsS102 w _ g125 t122 t133 t134 from by repeat (first | (with_reducible first | exact HI125.out | apply IsS102.alloc | apply IsS102.drewN | apply IsS102.drew | apply IsS102.set_1 | apply IsS102.set_2) | exact HI125.out)) (by (with_reducible repeat (first | apply Kd.R_alloc | apply Kd.R_drewN | apply Kd.R_drew)); exact (Q_HO131 h0_)) (by decide)) hk (fun _ h => h.2)) (fun _ h => h.1)) | exact Kd.R_mono (Kd.R_mono (Kd.R_keep (IsS102.apart (show IsS102 w _ g125 t122 t133 t134 from by repeat (first | (with_reducible first | exact HI125.out | apply IsS102.alloc | apply IsS102.drewN | apply IsS102.drew | apply IsS102.set_1 | apply IsS102.set_2) | exact HI125.out)) (by (with_reducible repeat (first | apply Kd.R_alloc | apply Kd.R_drewN | apply Kd.R_drew)); exact (Q_HO131 h0_)) (by decide)) hk (fun _ h => h.2)) (fun _ h => h.1)) (fun _ h_ => by first | trivial | exact h_ | exact h_.1))
                                    have z_HO138 := fun (h0_ : b 7 = true) => (show Kd.R Kd.string 9 w44 w.heap.size (fun _ => True) v137 y136 from by first | exact (Kd.R_mono (Kd.R_keep (IsS102.apart (show IsS102 w _ g125 t122 t133 t134 from by repeat (first | (with_reducible first | exact HI125.out | apply IsS102.alloc | apply IsS102.drewN | apply IsS102.drew | apply IsS102.set_1 | apply IsS102.set_2) | exact HI125.out)) (by (with_reducible repeat (first | apply Kd.R_alloc | apply Kd.R_drewN | apply Kd.R_drew)); exact (Q_HO138 h0_)) (by decide)) hk (fun _ h => h.2)) (fun _ h => h.1)) | exact Kd.R_mono (Kd.R_mono (Kd.R_keep (IsS102.apart (show IsS102 w _ g125 t122 t133 t134 from by repeat (first | (with_reducible first | exact HI125.out | apply IsS102.alloc | apply IsS102.drewN | apply IsS102.drew | apply IsS102.set_1 | apply IsS102.set_2) | exact HI125.out)) (by (with_reducible repeat (first | apply Kd.R_alloc | apply Kd.R_drewN | apply Kd.R_drew)); exact (Q_HO138 h0_)) (by decide)) hk (fun _ h => h.2)) (fun _ h => h.1)) (fun _ h_ => by first | trivial | exact h_ | exact h_.1))
                                    have z_HO145 := fun (h0_ : b 13 = true) => (show Kd.R Kd.string 9 w44 w.heap.size (fun _ => True) v144 y143 from by first | exact (Kd.R_mono (Kd.R_keep (IsS102.apart (show IsS102 w _ g125 t122 t133 t134 from by repeat (first | (with_reducible first | exact HI125.out | apply IsS102.alloc | apply IsS102.drewN | apply IsS102.drew | apply IsS102.set_1 | apply IsS102.set_2) | exact HI125.out)) (by (with_reducible repeat (first | apply Kd.R_alloc | apply Kd.R_drewN | apply Kd.R_drew)); exact (Q_HO145 h0_)) (by decide)) hk (fun _ h => h.2)) (fun _ h => h.1)) | exact Kd.R_mono (Kd.R_mono (Kd.R_keep (IsS102.apart (show IsS102 w _ g125 t122 t133 t134 from by repeat (first | (with_reducible first | exact HI125.out | apply IsS102.alloc | apply IsS102.drewN | apply IsS102.drew | apply IsS102.set_1 | apply IsS102.set_2) | exact HI125.out)) (by (with_reducible repeat (first | apply Kd.R_alloc | apply Kd.R_drewN | apply Kd.R_drew)); exact (Q_HO145 h0_)) (by decide)) hk (fun _ h => h.2)) (fun _ h => h.1)) (fun _ h_ => by first | trivial | exact h_ | exact h_.1))
                                    clear HB
                                    clear HI125
                                    have HB := n0_
                                    have HI125 := n1_
                                    clear n0_ n1_
                                    (try clear hb)
                                    (try clear hb2)
                                    (try clear hk)
                                    (try clear hi)
                                    refine hK.out _ _ ⟨v130, adz_v130, v137, adz_v137, v144, adz_v144, m4_, m10_, m16_, (by rw [ha.out]; exact putSel_upk 6 hb_ rfl rfl rfl), fun h0_ => absurd ((hon 3 (by kernel_rfl)).symm.trans h0_) (by decide), (by repeat (first | (with_reducible first | exact HB.out | apply below_alloc | apply pw_below_drewN | apply below_drew1 | refine below_set ?_ (IsS102.ge HI125.out)) | exact HB.out)), z_HO131, Q_HA_HO131, fun _ h1_ => absurd ((up_self b 9).symm.trans h1_) (by decide), z_HO138, Q_HA_HO138, fun _ _ => (by repeat (first | (with_reducible first | exact HI125.out | apply IsS102.alloc | apply IsS102.drewN | apply IsS102.drew | apply IsS102.set_1 | apply IsS102.set_2) | exact HI125.out)), z_HO145, Q_HA_HO145, fun h0_ => absurd ((hoff 15 (by kernel_rfl)).symm.trans h0_) (by decide), Q_X4_, fun h0_ => absurd ((hoff 10 (by kernel_rfl)).symm.trans h0_) (by decide), fun h0_ => absurd ((hoff 16 (by kernel_rfl)).symm.trans h0_) (by decide)⟩
                                  refine steps_cons ?_ ?_
                                  · rintro b a w' ⟨v130, adz_v130, v137, adz_v137, v144, adz_v144, m4_, m10_, m16_, ha, Q_HI125, Q_HB, Q_HO131, Q_HA_HO131, Q_HI125_e3, Q_HO138, Q_HA_HO138, Q_HI125_e9, Q_HO145, Q_HA_HO145, Q_HI125_e15, Q_X4_, Q_X10_, Q_X16_⟩ hb_ hon hoff
                                    refine ⟨_, rfl, fun K hK => ?_⟩
                                    have e21 : a.tmps[21]? = some (v137) := by rw [ha]; exact putSel_on (e := (7, 21, v137)) 5 rfl rfl (hon 7 (by kernel_rfl)) rfl
                                    have e23 : a.tmps[23]? = some (.int .i64 t139) := by rw [ha]; exact putSel_on (e := (9, 23, .int .i64 t139)) 6 rfl rfl (hon 9 (by kernel_rfl)) rfl
                                    replace ha := Aside0.mk ha
                                    have HB := Aside0.mk Q_HB
                                    have HO138 := Aside0.mk (Q_HO138 (hon 7 (by kernel_rfl)))
                                    have HA_HO138 := Aside0.mk (Q_HA_HO138 (hon 7 (by kernel_rfl)))
                                    obtain ⟨c_, hv_⟩ := HA_HO138.out
                                    rw [hv_] at e21
                                    refine value_ (w1 := w') (v := .pointer (some (adz_v137.add (t139).toNat))) (by rfl) rfl ?_ ?_
                                    · go_simp
                                      (try simp only [i64_w])
                                      try rfl
                                    refine hK.out _ _ ⟨v130, adz_v130, v137, adz_v137, v144, adz_v144, m4_, (.pointer (some (adz_v137.add (t139).toNat))), m16_, (by rw [ha.out]; exact putSel_upk 7 hb_ rfl rfl rfl), fun h0_ => absurd ((hon 3 (by kernel_rfl)).symm.trans h0_) (by decide), Q_HB, Q_HO131, Q_HA_HO131, fun _ h1_ => absurd ((hon 9 (by kernel_rfl)).symm.trans h1_) (by decide), Q_HO138, Q_HA_HO138, Q_HI125_e9, Q_HO145, Q_HA_HO145, Q_HI125_e15, Q_X4_, fun _ => rfl, Q_X16_⟩
                                  refine steps_cons ?_ ?_
                                  · rintro b a w' ⟨v130, adz_v130, v137, adz_v137, v144, adz_v144, m4_, m10_, m16_, ha, Q_HI125, Q_HB, Q_HO131, Q_HA_HO131, Q_HI125_e3, Q_HO138, Q_HA_HO138, Q_HI125_e9, Q_HO145, Q_HA_HO145, Q_HI125_e15, Q_X4_, Q_X10_, Q_X16_⟩ hb_ hon hoff
                                    refine ⟨_, rfl, fun K hK => ?_⟩
                                    have e24 : a.tmps[24]? = some (m10_) := by rw [ha]; exact putSel_on (e := (10, 24, m10_)) 7 rfl rfl (hon 10 (by kernel_rfl)) rfl
                                    rw [Q_X10_ (hon 10 (by kernel_rfl))] at e24
                                    replace ha := Aside0.mk ha
                                    have HB := Aside0.mk Q_HB
                                    have HO138 := Aside0.mk (Q_HO138 (hon 7 (by kernel_rfl)))
                                    have HA_HO138 := Aside0.mk (Q_HA_HO138 (hon 7 (by kernel_rfl)))
                                    obtain ⟨c_, hv_⟩ := HA_HO138.out
                                    have hF_ := HO138.out
                                    rw [hv_] at hF_
                                    obtain ⟨ad_, ea_, hx_⟩ := Kd.at_string (Kd.R_reads' hF_).2.2 t139 (of_eq_true pi142) (of_eq_true qi142)
                                    cases ea_
                                    refine value_ (w1 := w') (v := .string (rdOf ByteArray.empty y136 t139)) (by rfl) rfl ?_ ?_
                                    · go_simp
                                      (try simp only [i64_w])
                                      try rfl
                                    refine hK.out _ _ ⟨v130, adz_v130, v137, adz_v137, v144, adz_v144, m4_, m10_, m16_, (by rw [ha.out]; exact putSel_upk 8 hb_ rfl rfl rfl), fun h0_ => absurd ((hon 3 (by kernel_rfl)).symm.trans h0_) (by decide), Q_HB, Q_HO131, Q_HA_HO131, fun _ h1_ => absurd ((hon 9 (by kernel_rfl)).symm.trans h1_) (by decide), Q_HO138, Q_HA_HO138, Q_HI125_e9, Q_HO145, Q_HA_HO145, Q_HI125_e15, Q_X4_, Q_X10_, Q_X16_⟩
                                  refine steps_cons ?_ ?_
                                  · rintro b a w' ⟨v130, adz_v130, v137, adz_v137, v144, adz_v144, m4_, m10_, m16_, ha, Q_HI125, Q_HB, Q_HO131, Q_HA_HO131, Q_HI125_e3, Q_HO138, Q_HA_HO138, Q_HI125_e9, Q_HO145, Q_HA_HO145, Q_HI125_e15, Q_X4_, Q_X10_, Q_X16_⟩ hb_ hon hoff
                                    refine ⟨_, rfl, fun K hK => ?_⟩
                                    have e20 : a.tmps[20]? = some (.string (x4_1 ++ (rdOf ByteArray.empty y129 t132))) := by rw [ha]; exact putSel_on (e := (6, 20, .string (x4_1 ++ (rdOf ByteArray.empty y129 t132)))) 4 rfl rfl (hon 6 (by kernel_rfl)) rfl
                                    have e25 : a.tmps[25]? = some (.string (rdOf ByteArray.empty y136 t139)) := by rw [ha]; exact putSel_on (e := (11, 25, .string (rdOf ByteArray.empty y136 t139))) 8 rfl rfl (hon 11 (by kernel_rfl)) rfl
                                    replace ha := Aside0.mk ha
                                    have HB := Aside0.mk Q_HB
                                    have HO131 := Aside0.mk (Q_HO131 (hon 1 (by kernel_rfl)))
                                    have HA_HO131 := Aside0.mk (Q_HA_HO131 (hon 1 (by kernel_rfl)))
                                    have HO138 := Aside0.mk (Q_HO138 (hon 7 (by kernel_rfl)))
                                    have HA_HO138 := Aside0.mk (Q_HA_HO138 (hon 7 (by kernel_rfl)))
                                    refine value_ (w1 := w') (v := .string ((x4_1 ++ (rdOf ByteArray.empty y129 t132)) ++ (rdOf ByteArray.empty y136 t139))) (by rfl) rfl ?_ ?_
                                    · go_simp
                                      (try simp only [i64_w])
                                      try rfl
                                    refine hK.out _ _ ⟨v130, adz_v130, v137, adz_v137, v144, adz_v144, m4_, m10_, m16_, (by rw [ha.out]; exact putSel_upk 9 hb_ rfl rfl rfl), fun h0_ => absurd ((hon 3 (by kernel_rfl)).symm.trans h0_) (by decide), Q_HB, Q_HO131, Q_HA_HO131, fun _ h1_ => absurd ((hon 9 (by kernel_rfl)).symm.trans h1_) (by decide), Q_HO138, Q_HA_HO138, Q_HI125_e9, Q_HO145, Q_HA_HO145, Q_HI125_e15, Q_X4_, Q_X10_, Q_X16_⟩
                                  refine steps_cons ?_ ?_
                                  · rintro b a w' ⟨v130, adz_v130, v137, adz_v137, v144, adz_v144, m4_, m10_, m16_, ha, Q_HI125, Q_HB, Q_HO131, Q_HA_HO131, Q_HI125_e3, Q_HO138, Q_HA_HO138, Q_HI125_e9, Q_HO145, Q_HA_HO145, Q_HI125_e15, Q_X4_, Q_X10_, Q_X16_⟩ hb_ hon hoff
                                    refine ⟨_, rfl, fun K hK => ?_⟩
                                    replace ha := Aside0.mk ha
                                    have HB := Aside0.mk Q_HB
                                    refine Kd.R_lit_step Kd.string _ 9 ?hg (N := 27) ?hd (xs := ([(⟨#[]⟩ : ByteArray), (⟨#[32]⟩ : ByteArray)] : List ByteArray)) (inner := [.string (⟨#[]⟩ : ByteArray), .string (⟨#[32]⟩ : ByteArray)]) (ok := fun _ => True) (okp := fun _ => True) ?hr ?hp (fun _ hk => hk) trivial (Below.refl _ _) (Nat.le_refl _) (by simp) ?_; (case hd => rfl); (case hg => rfl); (case hr => first | (go_simp; done) | (go_simp; rfl)); (case hp => exact (Reps.one (show Kd.M Kd.string _ _ _ (⟨#[]⟩ : ByteArray) [.string (⟨#[]⟩ : ByteArray)] from rfl) (Reps.one (show Kd.M Kd.string _ _ _ (⟨#[32]⟩ : ByteArray) [.string (⟨#[32]⟩ : ByteArray)] from rfl) (Reps.none _ _))))
                                    intro v144 w42 ho43 hb hg_ hnew_
                                    clear hg_ hnew_
                                    (first | rw [← Ny143.out] at ho43 | (simp only [Int.reduceToNat] at ho43; rw [← Ny143.out] at ho43))
                                    have n0_ := Aside0.mk (Kd.R_lower ho43 (below_size (by repeat (first | (with_reducible first | exact HB.out | apply below_alloc | apply pw_below_drewN | apply below_drew1) | exact HB.out))))
                                    have n2_ := Aside0.mk (below_step (by repeat (first | (with_reducible first | exact HB.out | apply below_alloc | apply pw_below_drewN | apply below_drew1) | exact HB.out)) hb)
                                    have z_HI125 := fun (h0_ : b 3 = false) => (show IsS102 w w42 g125 t122 x126001_1 x126002_1 from by first | exact (IsS102.below (by repeat (first | (with_reducible first | exact (Q_HI125 h0_) | apply IsS102.alloc | apply IsS102.drewN | apply IsS102.drew | apply IsS102.set_1 | apply IsS102.set_2) | exact (Q_HI125 h0_))) hb))
                                    have z_HO131 := fun (h0_ : b 1 = true) => (show Kd.R Kd.string 9 w42 w.heap.size (fun _ => True) v130 y129 from by first | exact (Kd.R_elder' (by (with_reducible repeat (first | apply Kd.R_alloc | apply Kd.R_drewN | apply Kd.R_drew)); exact (Q_HO131 h0_)) (Kd.R_base ho43) hb) | exact Kd.R_mono (Kd.R_elder' (by (with_reducible repeat (first | apply Kd.R_alloc | apply Kd.R_drewN | apply Kd.R_drew)); exact (Q_HO131 h0_)) (Kd.R_base ho43) hb) (fun _ h_ => by first | trivial | exact h_ | exact h_.1))
                                    have z_HI125_e3 := fun (h0_ : b 3 = true) (h1_ : b 9 = false) => (show IsS102 w w42 g125 t122 t133 t134 from by first | exact (IsS102.below (by repeat (first | (with_reducible first | exact (Q_HI125_e3 h0_ h1_) | apply IsS102.alloc | apply IsS102.drewN | apply IsS102.drew | apply IsS102.set_1 | apply IsS102.set_2) | exact (Q_HI125_e3 h0_ h1_))) hb))
                                    have z_HO138 := fun (h0_ : b 7 = true) => (show Kd.R Kd.string 9 w42 w.heap.size (fun _ => True) v137 y136 from by first | exact (Kd.R_elder' (by (with_reducible repeat (first | apply Kd.R_alloc | apply Kd.R_drewN | apply Kd.R_drew)); exact (Q_HO138 h0_)) (Kd.R_base ho43) hb) | exact Kd.R_mono (Kd.R_elder' (by (with_reducible repeat (first | apply Kd.R_alloc | apply Kd.R_drewN | apply Kd.R_drew)); exact (Q_HO138 h0_)) (Kd.R_base ho43) hb) (fun _ h_ => by first | trivial | exact h_ | exact h_.1))
                                    have z_HI125_e9 := fun (h0_ : b 9 = true) (h1_ : b 15 = false) => (show IsS102 w w42 g125 t122 t140 t141 from by first | exact (IsS102.below (by repeat (first | (with_reducible first | exact (Q_HI125_e9 h0_ h1_) | apply IsS102.alloc | apply IsS102.drewN | apply IsS102.drew | apply IsS102.set_1 | apply IsS102.set_2) | exact (Q_HI125_e9 h0_ h1_))) hb))
                                    have z_HI125_e15 := fun (h0_ : b 15 = true) => (show IsS102 w w42 g125 t122 t147 t148 from by first | exact (IsS102.below (by repeat (first | (with_reducible first | exact (Q_HI125_e15 h0_) | apply IsS102.alloc | apply IsS102.drewN | apply IsS102.drew | apply IsS102.set_1 | apply IsS102.set_2) | exact (Q_HI125_e15 h0_))) hb))
                                    clear HB
                                    have HO145 := n0_
                                    have HB := n2_
                                    clear n0_ n2_
                                    clear hb ho43
                                    obtain ⟨Ao44, co44, eo44⟩ := Kd.R_slice HO145.out
                                    subst eo44
                                    obtain ⟨ado44, fo44, _⟩ := Kd.at_string (Kd.R_reads' HO145.out).2.2 0 (by decide) (by rw [Ny143.out]; simp)
                                    cases fo44
                                    refine hK.out _ _ ⟨v130, adz_v130, v137, adz_v137, .slice (some ado44) y143.length co44, ado44, m4_, m10_, m16_, (by rw [ha.out]; exact putSel_upk 10 hb_ rfl rfl rfl), z_HI125, (by repeat (first | (with_reducible first | exact HB.out | apply below_alloc | apply pw_below_drewN | apply below_drew1) | exact HB.out)), z_HO131, Q_HA_HO131, z_HI125_e3, z_HO138, Q_HA_HO138, z_HI125_e9, fun _ => (by (with_reducible repeat (first | apply Kd.R_alloc | apply Kd.R_drewN | apply Kd.R_drew)); exact HO145.out), fun _ => ⟨_, rfl⟩, z_HI125_e15, Q_X4_, Q_X10_, fun h0_ => absurd ((hoff 16 (by kernel_rfl)).symm.trans h0_) (by decide)⟩
                                  refine steps_cons ?_ ?_
                                  · rintro b a w' ⟨v130, adz_v130, v137, adz_v137, v144, adz_v144, m4_, m10_, m16_, ha, Q_HI125, Q_HB, Q_HO131, Q_HA_HO131, Q_HI125_e3, Q_HO138, Q_HA_HO138, Q_HI125_e9, Q_HO145, Q_HA_HO145, Q_HI125_e15, Q_X4_, Q_X10_, Q_X16_⟩ hb_ hon hoff
                                    refine ⟨_, rfl, fun K hK => ?_⟩
                                    have e28 : a.tmps[28]? = some (.pointer (some ⟨g125, 0, none⟩)) := by rw [ha]; exact (putSel_off rfl).trans rfl
                                    replace ha := Aside0.mk ha
                                    have HB := Aside0.mk Q_HB
                                    have HI125 := Aside0.mk (Q_HI125_e9 (hon 9 (by kernel_rfl)) hb_)
                                    refine goes_ Tryd.func45 (by kernel_rfl) rfl #[.pointer (some ⟨g125, 0, none⟩), .int .i64 2] (by rfl) rfl rfl (by first | (simp only [List.map_toArray, List.map_cons, List.map_nil, Act.eval, Array.getD_eq_getD_getElem?, Option.getD_some, e28]; done) | (simp only [List.map_toArray, List.map_cons, List.map_nil, Act.eval, Array.getD_eq_getD_getElem?, Option.getD_some, e28]; rfl)) ?_
                                    with_reducible refine (spec_l01Src_next.calls g125 t122 t140 t141 2 t146 t147 t148 w _ ?side1 ?side2 A15.out).mono ?_
                                    (case side1 => repeat (first | (with_reducible first | exact HI125.out | apply IsS102.alloc | apply IsS102.drewN | apply IsS102.drew | apply IsS102.set_1 | apply IsS102.set_2) | exact HI125.out))
                                    (case side2 => repeat (first | (with_reducible first | exact HB.out | apply below_alloc | apply pw_below_drewN | apply below_drew1 | refine below_set ?_ (IsS102.ge HI125.out)) | exact HB.out))
                                    rintro e w45 ⟨rfl, hi, hb, hk⟩
                                    refine ⟨_, rfl, ?_⟩
                                    have n0_ := Aside0.mk (hb)
                                    have n1_ := Aside0.mk (hi)
                                    have z_HO131 := fun (h0_ : b 1 = true) => (show Kd.R Kd.string 9 w45 w.heap.size (fun _ => True) v130 y129 from by first | exact (Kd.R_mono (Kd.R_keep (IsS102.apart (show IsS102 w _ g125 t122 t140 t141 from by repeat (first | (with_reducible first | exact HI125.out | apply IsS102.alloc | apply IsS102.drewN | apply IsS102.drew | apply IsS102.set_1 | apply IsS102.set_2) | exact HI125.out)) (by (with_reducible repeat (first | apply Kd.R_alloc | apply Kd.R_drewN | apply Kd.R_drew)); exact (Q_HO131 h0_)) (by decide)) hk (fun _ h => h.2)) (fun _ h => h.1)) | exact Kd.R_mono (Kd.R_mono (Kd.R_keep (IsS102.apart (show IsS102 w _ g125 t122 t140 t141 from by repeat (first | (with_reducible first | exact HI125.out | apply IsS102.alloc | apply IsS102.drewN | apply IsS102.drew | apply IsS102.set_1 | apply IsS102.set_2) | exact HI125.out)) (by (with_reducible repeat (first | apply Kd.R_alloc | apply Kd.R_drewN | apply Kd.R_drew)); exact (Q_HO131 h0_)) (by decide)) hk (fun _ h => h.2)) (fun _ h => h.1)) (fun _ h_ => by first | trivial | exact h_ | exact h_.1))
                                    have z_HO138 := fun (h0_ : b 7 = true) => (show Kd.R Kd.string 9 w45 w.heap.size (fun _ => True) v137 y136 from by first | exact (Kd.R_mono (Kd.R_keep (IsS102.apart (show IsS102 w _ g125 t122 t140 t141 from by repeat (first | (with_reducible first | exact HI125.out | apply IsS102.alloc | apply IsS102.drewN | apply IsS102.drew | apply IsS102.set_1 | apply IsS102.set_2) | exact HI125.out)) (by (with_reducible repeat (first | apply Kd.R_alloc | apply Kd.R_drewN | apply Kd.R_drew)); exact (Q_HO138 h0_)) (by decide)) hk (fun _ h => h.2)) (fun _ h => h.1)) | exact Kd.R_mono (Kd.R_mono (Kd.R_keep (IsS102.apart (show IsS102 w _ g125 t122 t140 t141 from by repeat (first | (with_reducible first | exact HI125.out | apply IsS102.alloc | apply IsS102.drewN | apply IsS102.drew | apply IsS102.set_1 | apply IsS102.set_2) | exact HI125.out)) (by (with_reducible repeat (first | apply Kd.R_alloc | apply Kd.R_drewN | apply Kd.R_drew)); exact (Q_HO138 h0_)) (by decide)) hk (fun _ h => h.2)) (fun _ h => h.1)) (fun _ h_ => by first | trivial | exact h_ | exact h_.1))
                                    have z_HO145 := fun (h0_ : b 13 = true) => (show Kd.R Kd.string 9 w45 w.heap.size (fun _ => True) v144 y143 from by first | exact (Kd.R_mono (Kd.R_keep (IsS102.apart (show IsS102 w _ g125 t122 t140 t141 from by repeat (first | (with_reducible first | exact HI125.out | apply IsS102.alloc | apply IsS102.drewN | apply IsS102.drew | apply IsS102.set_1 | apply IsS102.set_2) | exact HI125.out)) (by (with_reducible repeat (first | apply Kd.R_alloc | apply Kd.R_drewN | apply Kd.R_drew)); exact (Q_HO145 h0_)) (by decide)) hk (fun _ h => h.2)) (fun _ h => h.1)) | exact Kd.R_mono (Kd.R_mono (Kd.R_keep (IsS102.apart (show IsS102 w _ g125 t122 t140 t141 from by repeat (first | (with_reducible first | exact HI125.out | apply IsS102.alloc | apply IsS102.drewN | apply IsS102.drew | apply IsS102.set_1 | apply IsS102.set_2) | exact HI125.out)) (by (with_reducible repeat (first | apply Kd.R_alloc | apply Kd.R_drewN | apply Kd.R_drew)); exact (Q_HO145 h0_)) (by decide)) hk (fun _ h => h.2)) (fun _ h => h.1)) (fun _ h_ => by first | trivial | exact h_ | exact h_.1))
                                    clear HB
                                    clear HI125
                                    have HB := n0_
                                    have HI125 := n1_
                                    clear n0_ n1_
                                    (try clear hb)
                                    (try clear hb2)
                                    (try clear hk)
                                    (try clear hi)
                                    refine hK.out _ _ ⟨v130, adz_v130, v137, adz_v137, v144, adz_v144, m4_, m10_, m16_, (by rw [ha.out]; exact putSel_upk 11 hb_ rfl rfl rfl), fun h0_ => absurd ((hon 3 (by kernel_rfl)).symm.trans h0_) (by decide), (by repeat (first | (with_reducible first | exact HB.out | apply below_alloc | apply pw_below_drewN | apply below_drew1 | refine below_set ?_ (IsS102.ge HI125.out)) | exact HB.out)), z_HO131, Q_HA_HO131, fun _ h1_ => absurd ((hon 9 (by kernel_rfl)).symm.trans h1_) (by decide), z_HO138, Q_HA_HO138, fun _ h1_ => absurd ((up_self b 15).symm.trans h1_) (by decide), z_HO145, Q_HA_HO145, fun _ => (by repeat (first | (with_reducible first | exact HI125.out | apply IsS102.alloc | apply IsS102.drewN | apply IsS102.drew | apply IsS102.set_1 | apply IsS102.set_2) | exact HI125.out)), Q_X4_, Q_X10_, fun h0_ => absurd ((hoff 16 (by kernel_rfl)).symm.trans h0_) (by decide)⟩
                                  refine steps_cons ?_ ?_
                                  · rintro b a w' ⟨v130, adz_v130, v137, adz_v137, v144, adz_v144, m4_, m10_, m16_, ha, Q_HI125, Q_HB, Q_HO131, Q_HA_HO131, Q_HI125_e3, Q_HO138, Q_HA_HO138, Q_HI125_e9, Q_HO145, Q_HA_HO145, Q_HI125_e15, Q_X4_, Q_X10_, Q_X16_⟩ hb_ hon hoff
                                    refine ⟨_, rfl, fun K hK => ?_⟩
                                    have e27 : a.tmps[27]? = some (v144) := by rw [ha]; exact putSel_on (e := (13, 27, v144)) 10 rfl rfl (hon 13 (by kernel_rfl)) rfl
                                    have e29 : a.tmps[29]? = some (.int .i64 t146) := by rw [ha]; exact putSel_on (e := (15, 29, .int .i64 t146)) 11 rfl rfl (hon 15 (by kernel_rfl)) rfl
                                    replace ha := Aside0.mk ha
                                    have HB := Aside0.mk Q_HB
                                    have HO145 := Aside0.mk (Q_HO145 (hon 13 (by kernel_rfl)))
                                    have HA_HO145 := Aside0.mk (Q_HA_HO145 (hon 13 (by kernel_rfl)))
                                    have HI125 := Aside0.mk (Q_HI125_e15 (hon 15 (by kernel_rfl)))
                                    obtain ⟨c_, hv_⟩ := HA_HO145.out
                                    rw [hv_] at e27
                                    refine value_ (w1 := w') (v := .pointer (some (adz_v144.add (t146).toNat))) (by rfl) rfl ?_ ?_
                                    · go_simp
                                      (try simp only [i64_w])
                                      try rfl
                                    refine hK.out _ _ ⟨v130, adz_v130, v137, adz_v137, v144, adz_v144, m4_, m10_, (.pointer (some (adz_v144.add (t146).toNat))), (by rw [ha.out]; exact putSel_upk 12 hb_ rfl rfl rfl), fun h0_ => absurd ((hon 3 (by kernel_rfl)).symm.trans h0_) (by decide), Q_HB, Q_HO131, Q_HA_HO131, fun _ h1_ => absurd ((hon 9 (by kernel_rfl)).symm.trans h1_) (by decide), Q_HO138, Q_HA_HO138, fun _ h1_ => absurd ((hon 15 (by kernel_rfl)).symm.trans h1_) (by decide), Q_HO145, Q_HA_HO145, Q_HI125_e15, Q_X4_, Q_X10_, fun _ => rfl⟩
                                  refine steps_cons ?_ ?_
                                  · rintro b a w' ⟨v130, adz_v130, v137, adz_v137, v144, adz_v144, m4_, m10_, m16_, ha, Q_HI125, Q_HB, Q_HO131, Q_HA_HO131, Q_HI125_e3, Q_HO138, Q_HA_HO138, Q_HI125_e9, Q_HO145, Q_HA_HO145, Q_HI125_e15, Q_X4_, Q_X10_, Q_X16_⟩ hb_ hon hoff
                                    refine ⟨_, rfl, fun K hK => ?_⟩
                                    have e30 : a.tmps[30]? = some (m16_) := by rw [ha]; exact putSel_on (e := (16, 30, m16_)) 12 rfl rfl (hon 16 (by kernel_rfl)) rfl
                                    rw [Q_X16_ (hon 16 (by kernel_rfl))] at e30
                                    replace ha := Aside0.mk ha
                                    have HB := Aside0.mk Q_HB
                                    have HO145 := Aside0.mk (Q_HO145 (hon 13 (by kernel_rfl)))
                                    have HA_HO145 := Aside0.mk (Q_HA_HO145 (hon 13 (by kernel_rfl)))
                                    have HI125 := Aside0.mk (Q_HI125_e15 (hon 15 (by kernel_rfl)))
                                    obtain ⟨c_, hv_⟩ := HA_HO145.out
                                    have hF_ := HO145.out
                                    rw [hv_] at hF_
                                    obtain ⟨ad_, ea_, hx_⟩ := Kd.at_string (Kd.R_reads' hF_).2.2 t146 (of_eq_true pi149) (of_eq_true qi149)
                                    cases ea_
                                    refine value_ (w1 := w') (v := .string (rdOf ByteArray.empty y143 t146)) (by rfl) rfl ?_ ?_
                                    · go_simp
                                      (try simp only [i64_w])
                                      try rfl
                                    refine hK.out _ _ ⟨v130, adz_v130, v137, adz_v137, v144, adz_v144, m4_, m10_, m16_, (by rw [ha.out]; exact putSel_upk 13 hb_ rfl rfl rfl), fun h0_ => absurd ((hon 3 (by kernel_rfl)).symm.trans h0_) (by decide), Q_HB, Q_HO131, Q_HA_HO131, fun _ h1_ => absurd ((hon 9 (by kernel_rfl)).symm.trans h1_) (by decide), Q_HO138, Q_HA_HO138, fun _ h1_ => absurd ((hon 15 (by kernel_rfl)).symm.trans h1_) (by decide), Q_HO145, Q_HA_HO145, Q_HI125_e15, Q_X4_, Q_X10_, Q_X16_⟩
                                  refine steps_cons ?_ ?_
                                  · rintro b a w' ⟨v130, adz_v130, v137, adz_v137, v144, adz_v144, m4_, m10_, m16_, ha, Q_HI125, Q_HB, Q_HO131, Q_HA_HO131, Q_HI125_e3, Q_HO138, Q_HA_HO138, Q_HI125_e9, Q_HO145, Q_HA_HO145, Q_HI125_e15, Q_X4_, Q_X10_, Q_X16_⟩ hb_ hon hoff
                                    refine ⟨_, rfl, fun K hK => ?_⟩
                                    have e26 : a.tmps[26]? = some (.string ((x4_1 ++ (rdOf ByteArray.empty y129 t132)) ++ (rdOf ByteArray.empty y136 t139))) := by rw [ha]; exact putSel_on (e := (12, 26, .string ((x4_1 ++ (rdOf ByteArray.empty y129 t132)) ++ (rdOf ByteArray.empty y136 t139)))) 9 rfl rfl (hon 12 (by kernel_rfl)) rfl
                                    have e31 : a.tmps[31]? = some (.string (rdOf ByteArray.empty y143 t146)) := by rw [ha]; exact putSel_on (e := (17, 31, .string (rdOf ByteArray.empty y143 t146))) 13 rfl rfl (hon 17 (by kernel_rfl)) rfl
                                    replace ha := Aside0.mk ha
                                    have HB := Aside0.mk Q_HB
                                    have HO131 := Aside0.mk (Q_HO131 (hon 1 (by kernel_rfl)))
                                    have HA_HO131 := Aside0.mk (Q_HA_HO131 (hon 1 (by kernel_rfl)))
                                    have HO138 := Aside0.mk (Q_HO138 (hon 7 (by kernel_rfl)))
                                    have HA_HO138 := Aside0.mk (Q_HA_HO138 (hon 7 (by kernel_rfl)))
                                    have HO145 := Aside0.mk (Q_HO145 (hon 13 (by kernel_rfl)))
                                    have HA_HO145 := Aside0.mk (Q_HA_HO145 (hon 13 (by kernel_rfl)))
                                    have HI125 := Aside0.mk (Q_HI125_e15 (hon 15 (by kernel_rfl)))
                                    refine value_ (w1 := w') (v := .string (((x4_1 ++ (rdOf ByteArray.empty y129 t132)) ++ (rdOf ByteArray.empty y136 t139)) ++ (rdOf ByteArray.empty y143 t146))) (by rfl) rfl ?_ ?_
                                    · go_simp
                                      (try simp only [i64_w])
                                      try rfl
                                    refine hK.out _ _ ⟨v130, adz_v130, v137, adz_v137, v144, adz_v144, m4_, m10_, m16_, (by rw [ha.out]; exact putSel_upk 14 hb_ rfl rfl rfl), fun h0_ => absurd ((hon 3 (by kernel_rfl)).symm.trans h0_) (by decide), Q_HB, Q_HO131, Q_HA_HO131, fun _ h1_ => absurd ((hon 9 (by kernel_rfl)).symm.trans h1_) (by decide), Q_HO138, Q_HA_HO138, fun _ h1_ => absurd ((hon 15 (by kernel_rfl)).symm.trans h1_) (by decide), Q_HO145, Q_HA_HO145, Q_HI125_e15, Q_X4_, Q_X10_, Q_X16_⟩
                                  refine steps_cons ?_ ?_
                                  · rintro b a w' ⟨v130, adz_v130, v137, adz_v137, v144, adz_v144, m4_, m10_, m16_, ha, Q_HI125, Q_HB, Q_HO131, Q_HA_HO131, Q_HI125_e3, Q_HO138, Q_HA_HO138, Q_HI125_e9, Q_HO145, Q_HA_HO145, Q_HI125_e15, Q_X4_, Q_X10_, Q_X16_⟩ hb_ hon hoff
                                    refine ⟨_, rfl, fun K hK => ?_⟩
                                    have e32 : a.tmps[32]? = some (.string (((x4_1 ++ (rdOf ByteArray.empty y129 t132)) ++ (rdOf ByteArray.empty y136 t139)) ++ (rdOf ByteArray.empty y143 t146))) := by rw [ha]; exact putSel_on (e := (18, 32, .string (((x4_1 ++ (rdOf ByteArray.empty y129 t132)) ++ (rdOf ByteArray.empty y136 t139)) ++ (rdOf ByteArray.empty y143 t146)))) 14 rfl rfl (hon 18 (by kernel_rfl)) rfl
                                    replace ha := Aside0.mk ha
                                    have HB := Aside0.mk Q_HB
                                    have HO131 := Aside0.mk (Q_HO131 (hon 1 (by kernel_rfl)))
                                    have HA_HO131 := Aside0.mk (Q_HA_HO131 (hon 1 (by kernel_rfl)))
                                    have HO138 := Aside0.mk (Q_HO138 (hon 7 (by kernel_rfl)))
                                    have HA_HO138 := Aside0.mk (Q_HA_HO138 (hon 7 (by kernel_rfl)))
                                    have HO145 := Aside0.mk (Q_HO145 (hon 13 (by kernel_rfl)))
                                    have HA_HO145 := Aside0.mk (Q_HA_HO145 (hon 13 (by kernel_rfl)))
                                    have HI125 := Aside0.mk (Q_HI125_e15 (hon 15 (by kernel_rfl)))
                                    refine value_ (w1 := w') (v := .string (((x4_1 ++ (rdOf ByteArray.empty y129 t132)) ++ (rdOf ByteArray.empty y136 t139)) ++ (rdOf ByteArray.empty y143 t146))) (by rfl) rfl ?_ ?_
                                    · go_simp
                                      (try simp only [i64_w])
                                      try rfl
                                    refine hK.out _ _ ⟨v130, adz_v130, v137, adz_v137, v144, adz_v144, m4_, m10_, m16_, (by rw [ha.out]; exact putSel_upk 15 hb_ rfl rfl rfl), fun h0_ => absurd ((hon 3 (by kernel_rfl)).symm.trans h0_) (by decide), Q_HB, Q_HO131, Q_HA_HO131, fun _ h1_ => absurd ((hon 9 (by kernel_rfl)).symm.trans h1_) (by decide), Q_HO138, Q_HA_HO138, fun _ h1_ => absurd ((hon 15 (by kernel_rfl)).symm.trans h1_) (by decide), Q_HO145, Q_HA_HO145, Q_HI125_e15, Q_X4_, Q_X10_, Q_X16_⟩
                                  exact steps_nil
                                rintro b a w54 hall ⟨v130, adz_v130, v137, adz_v137, v144, adz_v144, m4_, m10_, m16_, ha, Q_HI125, Q_HB, Q_HO131, Q_HA_HO131, Q_HI125_e3, Q_HO138, Q_HA_HO138, Q_HI125_e9, Q_HO145, Q_HA_HO145, Q_HI125_e15, Q_X4_, Q_X10_, Q_X16_⟩
                                clear HB HI125
                                have hb1_ := hall 1 (by kernel_rfl)
                                have hb3_ := hall 3 (by kernel_rfl)
                                have hb4_ := hall 4 (by kernel_rfl)
                                have hb5_ := hall 5 (by kernel_rfl)
                                have hb6_ := hall 6 (by kernel_rfl)
                                have hb7_ := hall 7 (by kernel_rfl)
                                have hb9_ := hall 9 (by kernel_rfl)
                                have hb10_ := hall 10 (by kernel_rfl)
                                have hb11_ := hall 11 (by kernel_rfl)
                                have hb12_ := hall 12 (by kernel_rfl)
                                have hb13_ := hall 13 (by kernel_rfl)
                                have hb15_ := hall 15 (by kernel_rfl)
                                have hb16_ := hall 16 (by kernel_rfl)
                                have hb17_ := hall 17 (by kernel_rfl)
                                have hb18_ := hall 18 (by kernel_rfl)
                                have hb19_ := hall 19 (by kernel_rfl)
                                subst ha
                                obtain rfl := Q_X4_ hb4_
                                obtain rfl := Q_X10_ hb10_
                                obtain rfl := Q_X16_ hb16_
                                simp only [putSel, hb1_, hb3_, hb4_, hb5_, hb6_, hb7_, hb9_, hb10_, hb11_, hb12_, hb13_, hb15_, hb16_, hb17_, hb18_, hb19_, if_true, Act.put, List.setIfInBounds_toArray, List.set_cons_zero, List.set_cons_succ]
                                clear Q_HI125
                                have HB := Aside0.mk Q_HB
                                clear Q_HB
                                have HO131 := Aside0.mk (Q_HO131 hb1_)
                                clear Q_HO131
                                have HA_HO131 := Aside0.mk (Q_HA_HO131 hb1_)
                                clear Q_HA_HO131
                                clear Q_HI125_e3
                                have HO138 := Aside0.mk (Q_HO138 hb7_)
                                clear Q_HO138
                                have HA_HO138 := Aside0.mk (Q_HA_HO138 hb7_)
                                clear Q_HA_HO138
                                clear Q_HI125_e9
                                have HO145 := Aside0.mk (Q_HO145 hb13_)
                                clear Q_HO145
                                have HA_HO145 := Aside0.mk (Q_HA_HO145 hb13_)
                                clear Q_HA_HO145
                                have HI125 := Aside0.mk (Q_HI125_e15 hb15_)
                                clear Q_HI125_e15
                                clear hall hb1_ hb3_ hb4_ hb5_ hb6_ hb7_ hb9_ hb10_ hb11_ hb12_ hb13_ hb15_ hb16_ hb17_ hb18_ hb19_
                                obtain ⟨co55, eo55⟩ := HA_HO131.out
                                clear HA_HO131
                                subst eo55
                                obtain ⟨co56, eo56⟩ := HA_HO138.out
                                clear HA_HO138
                                subst eo56
                                obtain ⟨co57, eo57⟩ := HA_HO145.out
                                clear HA_HO145
                                subst eo57
                                try go_wp2_with (first | (go_at_call 46; (with_reducible refine (spec_l01Src_chance.calls g125 t122 t147 t148 4 true t151 t152 w _ ?side1 ?side2 A38.out).mono ?_); (case side1 => repeat (first | (with_reducible first | exact HI125.out | apply IsS102.alloc | apply IsS102.drewN | apply IsS102.drew | apply IsS102.set_1 | apply IsS102.set_2) | exact HI125.out)); (case side2 => repeat (first | (with_reducible first | exact HB.out | apply below_alloc | apply pw_below_drewN | apply below_drew1 | refine below_set ?_ (IsS102.ge HI125.out)) | exact HB.out)); rintro e w58 ⟨rfl, hi, hb, hk⟩; have n0_ := Aside0.mk (Kd.R_mono (Kd.R_keep (IsS102.apart (show IsS102 w _ g125 t122 t147 t148 from by repeat (first | (with_reducible first | exact HI125.out | apply IsS102.alloc | apply IsS102.drewN | apply IsS102.drew | apply IsS102.set_1 | apply IsS102.set_2) | exact HI125.out)) (by (with_reducible repeat (first | apply Kd.R_alloc | apply Kd.R_drewN | apply Kd.R_drew)); exact HO131.out) (by decide)) hk (fun _ h => h.2)) (fun _ h => h.1)); have n1_ := Aside0.mk (Kd.R_mono (Kd.R_keep (IsS102.apart (show IsS102 w _ g125 t122 t147 t148 from by repeat (first | (with_reducible first | exact HI125.out | apply IsS102.alloc | apply IsS102.drewN | apply IsS102.drew | apply IsS102.set_1 | apply IsS102.set_2) | exact HI125.out)) (by (with_reducible repeat (first | apply Kd.R_alloc | apply Kd.R_drewN | apply Kd.R_drew)); exact HO138.out) (by decide)) hk (fun _ h => h.2)) (fun _ h => h.1)); have n2_ := Aside0.mk (Kd.R_mono (Kd.R_keep (IsS102.apart (show IsS102 w _ g125 t122 t147 t148 from by repeat (first | (with_reducible first | exact HI125.out | apply IsS102.alloc | apply IsS102.drewN | apply IsS102.drew | apply IsS102.set_1 | apply IsS102.set_2) | exact HI125.out)) (by (with_reducible repeat (first | apply Kd.R_alloc | apply Kd.R_drewN | apply Kd.R_drew)); exact HO145.out) (by decide)) hk (fun _ h => h.2)) (fun _ h => h.1)); have n3_ := Aside0.mk (hb); have n4_ := Aside0.mk (hi); clear HO131; clear HO138; clear HO145; clear HB; clear HI125; have HO131 := n0_; have HO138 := n1_; have HO145 := n2_; have HB := n3_; have HI125 := n4_; clear n0_ n1_ n2_ n3_ n4_; (try clear hb); (try clear hb2); (try clear hk); (try clear hi)))
                                go_roundg k1
                                case measure => have := HK1.out; omega
                                case rel => exact ⟨((((x4_1 ++ (rdOf ByteArray.empty y129 t132)) ++ (rdOf ByteArray.empty y136 t139)) ++ (rdOf ByteArray.empty y143 t146)) ++ (⟨#[44]⟩ : ByteArray)), (wrap64 (x5_1 - 1)), (t151), (t152), (by first | rfl | (simp; done) | (simp [*]; done)), (by first | rfl | (simp; done) | (simp [*]; done)), H', ⟨by have := HK1.out; omega⟩, ⟨by repeat (first | (with_reducible first | exact HI125.out | apply IsS102.alloc | apply IsS102.drewN | apply IsS102.drew | apply IsS102.set_1 | apply IsS102.set_2) | exact HI125.out)⟩, ⟨by repeat (first | (with_reducible first | exact HB.out | apply below_alloc | apply pw_below_drewN | apply below_drew1 | refine below_set ?_ (IsS102.ge HI125.out)) | exact HB.out)⟩⟩
                              · rw [if_neg c40] at H
                                exact absurd H (by simp)
                            · replace c39 := Bool.eq_false_iff.mpr c39
                              subst c39
                              have H1 : (spec_DrawReadPriority.l0 k1 (((x4_1 ++ (rdOf ByteArray.empty y129 t132)) ++ (rdOf ByteArray.empty y136 t139)) ++ (rdOf ByteArray.empty y143 t146)) (wrap64 (x5_1 - 1)) t122 t151 t152) = some r := by rw [if_neg (show ¬ (false = true) by decide)] at H; exact H
                              clear H
                              have H := H1
                              clear H1
                              have H' := Aside0.mk H
                              clear H
                              try go_wp2
                              have pi135 : (0 ≤ (t132 : Int)) = True := eq_true (of_decide_eq_true (by first | (with_reducible assumption) | assumption))
                              have qi135 : (t132 < (y129.length : Int)) = True := eq_true (of_decide_eq_true (by first | (with_reducible assumption) | assumption))
                              have pi142 : (0 ≤ (t139 : Int)) = True := eq_true (of_decide_eq_true (by first | (with_reducible assumption) | assumption))
                              have qi142 : (t139 < (y136.length : Int)) = True := eq_true (of_decide_eq_true (by first | (with_reducible assumption) | assumption))
                              have pi149 : (0 ≤ (t146 : Int)) = True := eq_true (of_decide_eq_true (by first | (with_reducible assumption) | assumption))
                              have qi149 : (t146 < (y143.length : Int)) = True := eq_true (of_decide_eq_true (by first | (with_reducible assumption) | assumption))
                              have n0_ := Aside0.mk (IsS102.drew HI125.out)
                              have n1_ := Aside0.mk (below_drew1 HB.out)
                              clear HI125
                              clear HB
                              have HI125 := n0_
                              have HB := n1_
                              clear n0_ n1_
                              refine start_ (n := 20) (S := fun w' => True) (ds := []) #[false, false, false, false, false, false, false, false, false, false, false, false, false, false, false, false, false, false, false, false] (by kernel_rfl) rfl rfl trivial (fun hHeld => ?_); refine with_tabW spec_DrawReadPriority.tab6 spec_DrawReadPriority.bits6 (fun HT_ HW_ => ?_)
                              generalize wr.drew = w59 at HI125 HB hHeld ⊢
                              refine pure_ (i := 0) (N := some 14) (v := ?_) (a' := ?_) #[true, false, false, false, false, false, false, false, false, false, false, false, false, false, false, false, false, false, false, false] rfl rfl (any_of HT_.out (by kernel_rfl)) (fun _ _ _ h => h) (Or.inl ⟨by rfl, ?_⟩) ?_ ?_
                              rotate_left
                              · intro w'
                                go_simp
                                with_reducible rfl
                              rotate_left
                              · simp only [Act.put, List.setIfInBounds_toArray, List.set_cons_zero, List.set_cons_succ, i64_w, i32_w]
                                rfl
                              refine pure_ (i := 2) (N := some 16) (v := ?_) (a' := ?_) #[true, false, true, false, false, false, false, false, false, false, false, false, false, false, false, false, false, false, false, false] rfl rfl (any_of HT_.out (by kernel_rfl)) (fun _ _ _ h => h) (Or.inl ⟨by rfl, ?_⟩) ?_ ?_
                              rotate_left
                              · intro w'
                                go_simp
                                with_reducible rfl
                              rotate_left
                              · simp only [Act.put, List.setIfInBounds_toArray, List.set_cons_zero, List.set_cons_succ, i64_w, i32_w]
                                rfl
                              refine pure_ (i := 8) (N := some 22) (v := ?_) (a' := ?_) #[true, false, true, false, false, false, false, false, true, false, false, false, false, false, false, false, false, false, false, false] rfl rfl (any_of HT_.out (by kernel_rfl)) (fun _ _ _ h => h) (Or.inl ⟨by rfl, ?_⟩) ?_ ?_
                              rotate_left
                              · intro w'
                                go_simp
                                with_reducible rfl
                              rotate_left
                              · simp only [Act.put, List.setIfInBounds_toArray, List.set_cons_zero, List.set_cons_succ, i64_w, i32_w]
                                rfl
                              refine pure_ (i := 14) (N := some 28) (v := ?_) (a' := ?_) #[true, false, true, false, false, false, false, false, true, false, false, false, false, false, true, false, false, false, false, false] rfl rfl (any_of HT_.out (by kernel_rfl)) (fun _ _ _ h => h) (Or.inl ⟨by rfl, ?_⟩) ?_ ?_
                              rotate_left
                              · intro w'
                                go_simp
                                with_reducible rfl
                              rotate_left
                              · simp only [Act.put, List.setIfInBounds_toArray, List.set_cons_zero, List.set_cons_succ, i64_w, i32_w]
                                rfl
                              refine inv_at [1, 3, 4, 5, 6, 7, 9, 10, 11, 12, 13, 15, 16, 17, 18, 19] (fun a0_ b a w' => ∃ (v130 : Value) (adz_v130 : Addr) (v137 : Value) (adz_v137 : Addr) (v144 : Value) (adz_v144 : Addr) (m4_ : Value) (m10_ : Value) (m16_ : Value), a = putSel a0_ b [(1, 15, v130), (3, 17, .int .i64 t132), (4, 18, m4_), (5, 19, .string (rdOf ByteArray.empty y129 t132)), (6, 20, .string (x4_1 ++ (rdOf ByteArray.empty y129 t132))), (7, 21, v137), (9, 23, .int .i64 t139), (10, 24, m10_), (11, 25, .string (rdOf ByteArray.empty y136 t139)), (12, 26, .string ((x4_1 ++ (rdOf ByteArray.empty y129 t132)) ++ (rdOf ByteArray.empty y136 t139))), (13, 27, v144), (15, 29, .int .i64 t146), (16, 30, m16_), (17, 31, .string (rdOf ByteArray.empty y143 t146)), (18, 32, .string (((x4_1 ++ (rdOf ByteArray.empty y129 t132)) ++ (rdOf ByteArray.empty y136 t139)) ++ (rdOf ByteArray.empty y143 t146))), (19, 4, .string (((x4_1 ++ (rdOf ByteArray.empty y129 t132)) ++ (rdOf ByteArray.empty y136 t139)) ++ (rdOf ByteArray.empty y143 t146)))] ∧ (b 3 = false → IsS102 w w' g125 t122 x126001_1 x126002_1) ∧ (Below w.heap.size w w') ∧ (b 1 = true → Kd.R Kd.string 9 w' w.heap.size (fun _ => True) v130 y129) ∧ (b 1 = true → ∃ c_, (v130 : Value) = .slice (some adz_v130) y129.length c_) ∧ (b 3 = true → b 9 = false → IsS102 w w' g125 t122 t133 t134) ∧ (b 7 = true → Kd.R Kd.string 9 w' w.heap.size (fun _ => True) v137 y136) ∧ (b 7 = true → ∃ c_, (v137 : Value) = .slice (some adz_v137) y136.length c_) ∧ (b 9 = true → b 15 = false → IsS102 w w' g125 t122 t140 t141) ∧ (b 13 = true → Kd.R Kd.string 9 w' w.heap.size (fun _ => True) v144 y143) ∧ (b 13 = true → ∃ c_, (v144 : Value) = .slice (some adz_v144) y143.length c_) ∧ (b 15 = true → IsS102 w w' g125 t122 t147 t148) ∧ (b 4 = true → (m4_ : Value) = .pointer (some (adz_v130.add (t132).toNat))) ∧ (b 10 = true → (m10_ : Value) = .pointer (some (adz_v137.add (t139).toNat))) ∧ (b 16 = true → (m16_ : Value) = .pointer (some (adz_v144.add (t146).toNat)))) HT_.out HW_.out (by kernel_rfl) (by kernel_rfl) ?_ ?_ ?_
                              · exact ⟨.bool false, ⟨0, 0, none⟩, .bool false, ⟨0, 0, none⟩, .bool false, ⟨0, 0, none⟩, .bool false, .bool false, .bool false, by simp only [putSel, Bool.false_eq_true, if_false], fun _ => HI125.out, HB.out, fun h_ => absurd h_ (by decide), fun h_ => absurd h_ (by decide), fun h_ => absurd h_ (by decide), fun h_ => absurd h_ (by decide), fun h_ => absurd h_ (by decide), fun h_ => absurd h_ (by decide), fun h_ => absurd h_ (by decide), fun h_ => absurd h_ (by decide), fun h_ => absurd h_ (by decide), fun h_ => absurd h_ (by decide), fun h_ => absurd h_ (by decide), fun h_ => absurd h_ (by decide)⟩
                              · skip
                                clear HB HI125
                                refine steps_cons ?_ ?_
                                · rintro b a w' ⟨v130, adz_v130, v137, adz_v137, v144, adz_v144, m4_, m10_, m16_, ha, Q_HI125, Q_HB, Q_HO131, Q_HA_HO131, Q_HI125_e3, Q_HO138, Q_HA_HO138, Q_HI125_e9, Q_HO145, Q_HA_HO145, Q_HI125_e15, Q_X4_, Q_X10_, Q_X16_⟩ hb_ hon hoff
                                  refine ⟨_, rfl, fun K hK => ?_⟩
                                  replace ha := Aside0.mk ha
                                  have HB := Aside0.mk Q_HB
                                  refine Kd.R_lit_step Kd.string _ 9 ?hg (N := 15) ?hd (xs := ([(⟨#[]⟩ : ByteArray), (⟨#[32]⟩ : ByteArray), (⟨#[32, 32]⟩ : ByteArray)] : List ByteArray)) (inner := [.string (⟨#[]⟩ : ByteArray), .string (⟨#[32]⟩ : ByteArray), .string (⟨#[32, 32]⟩ : ByteArray)]) (ok := fun _ => True) (okp := fun _ => True) ?hr ?hp (fun _ hk => hk) trivial (Below.refl _ _) (Nat.le_refl _) (by simp) ?_; (case hd => rfl); (case hg => rfl); (case hr => first | (go_simp; done) | (go_simp; rfl)); (case hp => exact (Reps.one (show Kd.M Kd.string _ _ _ (⟨#[]⟩ : ByteArray) [.string (⟨#[]⟩ : ByteArray)] from rfl) (Reps.one (show Kd.M Kd.string _ _ _ (⟨#[32]⟩ : ByteArray) [.string (⟨#[32]⟩ : ByteArray)] from rfl) (Reps.one (show Kd.M Kd.string _ _ _ (⟨#[32, 32]⟩ : ByteArray) [.string (⟨#[32, 32]⟩ : ByteArray)] from rfl) (Reps.none _ _)))))
                                  intro v130 w60 ho61 hb hg_ hnew_
                                  clear hg_ hnew_
                                  (first | rw [← Ny129.out] at ho61 | (simp only [Int.reduceToNat] at ho61; rw [← Ny129.out] at ho61))
                                  have n0_ := Aside0.mk (Kd.R_lower ho61 (below_size (by repeat (first | (with_reducible first | exact HB.out | apply below_alloc | apply pw_below_drewN | apply below_drew1) | exact HB.out))))
                                  have n2_ := Aside0.mk (below_step (by repeat (first | (with_reducible first | exact HB.out | apply below_alloc | apply pw_below_drewN | apply below_drew1) | exact HB.out)) hb)
                                  have z_HI125 := fun (h0_ : b 3 = false) => (show IsS102 w w60 g125 t122 x126001_1 x126002_1 from by first | exact (IsS102.below (by repeat (first | (with_reducible first | exact (Q_HI125 h0_) | apply IsS102.alloc | apply IsS102.drewN | apply IsS102.drew | apply IsS102.set_1 | apply IsS102.set_2) | exact (Q_HI125 h0_))) hb))
                                  have z_HI125_e3 := fun (h0_ : b 3 = true) (h1_ : b 9 = false) => (show IsS102 w w60 g125 t122 t133 t134 from by first | exact (IsS102.below (by repeat (first | (with_reducible first | exact (Q_HI125_e3 h0_ h1_) | apply IsS102.alloc | apply IsS102.drewN | apply IsS102.drew | apply IsS102.set_1 | apply IsS102.set_2) | exact (Q_HI125_e3 h0_ h1_))) hb))
                                  have z_HO138 := fun (h0_ : b 7 = true) => (show Kd.R Kd.string 9 w60 w.heap.size (fun _ => True) v137 y136 from by first | exact (Kd.R_elder' (by (with_reducible repeat (first | apply Kd.R_alloc | apply Kd.R_drewN | apply Kd.R_drew)); exact (Q_HO138 h0_)) (Kd.R_base ho61) hb) | exact Kd.R_mono (Kd.R_elder' (by (with_reducible repeat (first | apply Kd.R_alloc | apply Kd.R_drewN | apply Kd.R_drew)); exact (Q_HO138 h0_)) (Kd.R_base ho61) hb) (fun _ h_ => by first | trivial | exact h_ | exact h_.1))
                                  have z_HI125_e9 := fun (h0_ : b 9 = true) (h1_ : b 15 = false) => (show IsS102 w w60 g125 t122 t140 t141 from by first | exact (IsS102.below (by repeat (first | (with_reducible first | exact (Q_HI125_e9 h0_ h1_) | apply IsS102.alloc | apply IsS102.drewN | apply IsS102.drew | apply IsS102.set_1 | apply IsS102.set_2) | exact (Q_HI125_e9 h0_ h1_))) hb))
                                  have z_HO145 := fun (h0_ : b 13 = true) => (show Kd.R Kd.string 9 w60 w.heap.size (fun _ => True) v144 y143 from by first | exact (Kd.R_elder' (by (with_reducible repeat (first | apply Kd.R_alloc | apply Kd.R_drewN | apply Kd.R_drew)); exact (Q_HO145 h0_)) (Kd.R_base ho61) hb) | exact Kd.R_mono (Kd.R_elder' (by (with_reducible repeat (first | apply Kd.R_alloc | apply Kd.R_drewN | apply Kd.R_drew)); exact (Q_HO145 h0_)) (Kd.R_base ho61) hb) (fun _ h_ => by first | trivial | exact h_ | exact h_.1))
                                  have z_HI125_e15 := fun (h0_ : b 15 = true) => (show IsS102 w w60 g125 t122 t147 t148 from by first | exact (IsS102.below (by repeat (first | (with_reducible first | exact (Q_HI125_e15 h0_) | apply IsS102.alloc | apply IsS102.drewN | apply IsS102.drew | apply IsS102.set_1 | apply IsS102.set_2) | exact (Q_HI125_e15 h0_))) hb))
                                  clear HB
                                  have HO131 := n0_
                                  have HB := n2_
                                  clear n0_ n2_
                                  clear hb ho61
                                  obtain ⟨Ao62, co62, eo62⟩ := Kd.R_slice HO131.out
                                  subst eo62
                                  obtain ⟨ado62, fo62, _⟩ := Kd.at_string (Kd.R_reads' HO131.out).2.2 0 (by decide) (by rw [Ny129.out]; simp)
                                  cases fo62
                                  refine hK.out _ _ ⟨.slice (some ado62) y129.length co62, ado62, v137, adz_v137, v144, adz_v144, m4_, m10_, m16_, (by rw [ha.out]; exact putSel_upk 0 hb_ rfl rfl rfl), z_HI125, (by repeat (first | (with_reducible first | exact HB.out | apply below_alloc | apply pw_below_drewN | apply below_drew1) | exact HB.out)), fun _ => (by (with_reducible repeat (first | apply Kd.R_alloc | apply Kd.R_drewN | apply Kd.R_drew)); exact HO131.out), fun _ => ⟨_, rfl⟩, z_HI125_e3, z_HO138, Q_HA_HO138, z_HI125_e9, z_HO145, Q_HA_HO145, z_HI125_e15, fun h0_ => absurd ((hoff 4 (by kernel_rfl)).symm.trans h0_) (by decide), Q_X10_, Q_X16_⟩
                                refine steps_cons ?_ ?_
                                · rintro b a w' ⟨v130, adz_v130, v137, adz_v137, v144, adz_v144, m4_, m10_, m16_, ha, Q_HI125, Q_HB, Q_HO131, Q_HA_HO131, Q_HI125_e3, Q_HO138, Q_HA_HO138, Q_HI125_e9, Q_HO145, Q_HA_HO145, Q_HI125_e15, Q_X4_, Q_X10_, Q_X16_⟩ hb_ hon hoff
                                  refine ⟨_, rfl, fun K hK => ?_⟩
                                  have e16 : a.tmps[16]? = some (.pointer (some ⟨g125, 0, none⟩)) := by rw [ha]; exact (putSel_off rfl).trans rfl
                                  replace ha := Aside0.mk ha
                                  have HI125 := Aside0.mk (Q_HI125 hb_)
                                  have HB := Aside0.mk Q_HB
                                  refine goes_ Tryd.func45 (by kernel_rfl) rfl #[.pointer (some ⟨g125, 0, none⟩), .int .i64 3] (by rfl) rfl rfl (by first | (simp only [List.map_toArray, List.map_cons, List.map_nil, Act.eval, Array.getD_eq_getD_getElem?, Option.getD_some, e16]; done) | (simp only [List.map_toArray, List.map_cons, List.map_nil, Act.eval, Array.getD_eq_getD_getElem?, Option.getD_some, e16]; rfl)) ?_
                                  with_reducible refine (spec_l01Src_next.calls g125 t122 x126001_1 x126002_1 3 t132 t133 t134 w _ ?side1 ?side2 A7.out).mono ?_
                                  (case side1 => repeat (first | (with_reducible first | exact HI125.out | apply IsS102.alloc | apply IsS102.drewN | apply IsS102.drew | apply IsS102.set_1 | apply IsS102.set_2) | exact HI125.out))
                                  (case side2 => repeat (first | (with_reducible first | exact HB.out | apply below_alloc | apply pw_below_drewN | apply below_drew1 | refine below_set ?_ (IsS102.ge HI125.out)) | exact HB.out))
                                  rintro e w60 ⟨rfl, hi, hb, hk⟩
                                  refine ⟨_, rfl, ?_⟩
                                  have n0_ := Aside0.mk (hb)
                                  have n1_ := Aside0.mk (hi)
                                  have z_HO131 := fun (h0_ : b 1 = true) => (show Kd.R Kd.string 9 w60 w.heap.size (fun _ => True) v130 y129 from by first | exact (Kd.R_mono (Kd.R_keep (IsS102.apart (show IsS102 w _ g125 t122 x126001_1 x126002_1 from by repeat (first | (with_reducible first | exact HI125.out | apply IsS102.alloc | apply IsS102.drewN | apply IsS102.drew | apply IsS102.set_1 | apply IsS102.set_2) | exact HI125.out)) (by (with_reducible repeat (first | apply Kd.R_alloc | apply Kd.R_drewN | apply Kd.R_drew)); exact (Q_HO131 h0_)) (by decide)) hk (fun _ h => h.2)) (fun _ h => h.1)) | exact Kd.R_mono (Kd.R_mono (Kd.R_keep (IsS102.apart (show IsS102 w _ g125 t122 x126001_1 x126002_1 from by repeat (first | (with_reducible first | exact HI125.out | apply IsS102.alloc | apply IsS102.drewN | apply IsS102.drew | apply IsS102.set_1 | apply IsS102.set_2) | exact HI125.out)) (by (with_reducible repeat (first | apply Kd.R_alloc | apply Kd.R_drewN | apply Kd.R_drew)); exact (Q_HO131 h0_)) (by decide)) hk (fun _ h => h.2)) (fun _ h => h.1)) (fun _ h_ => by first | trivial | exact h_ | exact h_.1))
                                  have z_HO138 := fun (h0_ : b 7 = true) => (show Kd.R Kd.string 9 w60 w.heap.size (fun _ => True) v137 y136 from by first | exact (Kd.R_mono (Kd.R_keep (IsS102.apart (show IsS102 w _ g125 t122 x126001_1 x126002_1 from by repeat (first | (with_reducible first | exact HI125.out | apply IsS102.alloc | apply IsS102.drewN | apply IsS102.drew | apply IsS102.set_1 | apply IsS102.set_2) | exact HI125.out)) (by (with_reducible repeat (first | apply Kd.R_alloc | apply Kd.R_drewN | apply Kd.R_drew)); exact (Q_HO138 h0_)) (by decide)) hk (fun _ h => h.2)) (fun _ h => h.1)) | exact Kd.R_mono (Kd.R_mono (Kd.R_keep (IsS102.apart (show IsS102 w _ g125 t122 x126001_1 x126002_1 from by repeat (first | (with_reducible first | exact HI125.out | apply IsS102.alloc | apply IsS102.drewN | apply IsS102.drew | apply IsS102.set_1 | apply IsS102.set_2) | exact HI125.out)) (by (with_reducible repeat (first | apply Kd.R_alloc | apply Kd.R_drewN | apply Kd.R_drew)); exact (Q_HO138 h0_)) (by decide)) hk (fun _ h => h.2)) (fun _ h => h.1)) (fun _ h_ => by first | trivial | exact h_ | exact h_.1))
                                  have z_HO145 := fun (h0_ : b 13 = true) => (show Kd.R Kd.string 9 w60 w.heap.size (fun _ => True) v144 y143 from by first | exact (Kd.R_mono (Kd.R_keep (IsS102.apart (show IsS102 w _ g125 t122 x126001_1 x126002_1 from by repeat (first | (with_reducible first | exact HI125.out | apply IsS102.alloc | apply IsS102.drewN | apply IsS102.drew | apply IsS102.set_1 | apply IsS102.set_2) | exact HI125.out)) (by (with_reducible repeat (first | apply Kd.R_alloc | apply Kd.R_drewN | apply Kd.R_drew)); exact (Q_HO145 h0_)) (by decide)) hk (fun _ h => h.2)) (fun _ h => h.1)) | exact Kd.R_mono (Kd.R_mono (Kd.R_keep (IsS102.apart (show IsS102 w _ g125 t122 x126001_1 x126002_1 from by repeat (first | (with_reducible first | exact HI125.out | apply IsS102.alloc | apply IsS102.drewN | apply IsS102.drew | apply IsS102.set_1 | apply IsS102.set_2) | exact HI125.out)) (by (with_reducible repeat (first | apply Kd.R_alloc | apply Kd.R_drewN | apply Kd.R_drew)); exact (Q_HO145 h0_)) (by decide)) hk (fun _ h => h.2)) (fun _ h => h.1)) (fun _ h_ => by first | trivial | exact h_ | exact h_.1))
                                  clear HB
                                  clear HI125
                                  have HB := n0_
                                  have HI125 := n1_
                                  clear n0_ n1_
                                  (try clear hb)
                                  (try clear hb2)
                                  (try clear hk)
                                  (try clear hi)
                                  refine hK.out _ _ ⟨v130, adz_v130, v137, adz_v137, v144, adz_v144, m4_, m10_, m16_, (by rw [ha.out]; exact putSel_upk 1 hb_ rfl rfl rfl), fun h0_ => absurd ((up_self b 3).symm.trans h0_) (by decide), (by repeat (first | (with_reducible first | exact HB.out | apply below_alloc | apply pw_below_drewN | apply below_drew1 | refine below_set ?_ (IsS102.ge HI125.out)) | exact HB.out)), z_HO131, Q_HA_HO131, fun _ _ => (by repeat (first | (with_reducible first | exact HI125.out | apply IsS102.alloc | apply IsS102.drewN | apply IsS102.drew | apply IsS102.set_1 | apply IsS102.set_2) | exact HI125.out)), z_HO138, Q_HA_HO138, fun h0_ _ => absurd ((hoff 9 (by kernel_rfl)).symm.trans h0_) (by decide), z_HO145, Q_HA_HO145, fun h0_ => absurd ((hoff 15 (by kernel_rfl)).symm.trans h0_) (by decide), fun h0_ => absurd ((hoff 4 (by kernel_rfl)).symm.trans h0_) (by decide), fun h0_ => absurd ((hoff 10 (by kernel_rfl)).symm.trans h0_) (by decide), fun h0_ => absurd ((hoff 16 (by kernel_rfl)).symm.trans h0_) (by decide)⟩
                                refine steps_cons ?_ ?_
                                · rintro b a w' ⟨v130, adz_v130, v137, adz_v137, v144, adz_v144, m4_, m10_, m16_, ha, Q_HI125, Q_HB, Q_HO131, Q_HA_HO131, Q_HI125_e3, Q_HO138, Q_HA_HO138, Q_HI125_e9, Q_HO145, Q_HA_HO145, Q_HI125_e15, Q_X4_, Q_X10_, Q_X16_⟩ hb_ hon hoff
                                  refine ⟨_, rfl, fun K hK => ?_⟩
                                  have e15 : a.tmps[15]? = some (v130) := by rw [ha]; exact putSel_on (e := (1, 15, v130)) 0 rfl rfl (hon 1 (by kernel_rfl)) rfl
                                  have e17 : a.tmps[17]? = some (.int .i64 t132) := by rw [ha]; exact putSel_on (e := (3, 17, .int .i64 t132)) 1 rfl rfl (hon 3 (by kernel_rfl)) rfl
                                  replace ha := Aside0.mk ha
                                  have HB := Aside0.mk Q_HB
                                  have HO131 := Aside0.mk (Q_HO131 (hon 1 (by kernel_rfl)))
                                  have HA_HO131 := Aside0.mk (Q_HA_HO131 (hon 1 (by kernel_rfl)))
                                  obtain ⟨c_, hv_⟩ := HA_HO131.out
                                  rw [hv_] at e15
                                  refine value_ (w1 := w') (v := .pointer (some (adz_v130.add (t132).toNat))) (by rfl) rfl ?_ ?_
                                  · go_simp
                                    (try simp only [i64_w])
                                    try rfl
                                  refine hK.out _ _ ⟨v130, adz_v130, v137, adz_v137, v144, adz_v144, (.pointer (some (adz_v130.add (t132).toNat))), m10_, m16_, (by rw [ha.out]; exact putSel_upk 2 hb_ rfl rfl rfl), fun h0_ => absurd ((hon 3 (by kernel_rfl)).symm.trans h0_) (by decide), Q_HB, Q_HO131, Q_HA_HO131, Q_HI125_e3, Q_HO138, Q_HA_HO138, Q_HI125_e9, Q_HO145, Q_HA_HO145, Q_HI125_e15, fun _ => rfl, Q_X10_, Q_X16_⟩
                                refine steps_cons ?_ ?_
                                · rintro b a w' ⟨v130, adz_v130, v137, adz_v137, v144, adz_v144, m4_, m10_, m16_, ha, Q_HI125, Q_HB, Q_HO131, Q_HA_HO131, Q_HI125_e3, Q_HO138, Q_HA_HO138, Q_HI125_e9, Q_HO145, Q_HA_HO145, Q_HI125_e15, Q_X4_, Q_X10_, Q_X16_⟩ hb_ hon hoff
                                  refine ⟨_, rfl, fun K hK => ?_⟩
                                  have e18 : a.tmps[18]? = some (m4_) := by rw [ha]; exact putSel_on (e := (4, 18, m4_)) 2 rfl rfl (hon 4 (by kernel_rfl)) rfl
                                  rw [Q_X4_ (hon 4 (by kernel_rfl))] at e18
                                  replace ha := Aside0.mk ha
                                  have HB := Aside0.mk Q_HB
                                  have HO131 := Aside0.mk (Q_HO131 (hon 1 (by kernel_rfl)))
                                  have HA_HO131 := Aside0.mk (Q_HA_HO131 (hon 1 (by kernel_rfl)))
                                  obtain ⟨c_, hv_⟩ := HA_HO131.out
                                  have hF_ := HO131.out
                                  rw [hv_] at hF_
                                  obtain ⟨ad_, ea_, hx_⟩ := Kd.at_string (Kd.R_reads' hF_).2.2 t132 (of_eq_true pi135) (of_eq_true qi135)
                                  cases ea_
                                  refine value_ (w1 := w') (v := .string (rdOf ByteArray.empty y129 t132)) (by rfl) rfl ?_ ?_
                                  · go_simp
                                    (try simp only [i64_w])
                                    try rfl
                                  refine hK.out _ _ ⟨v130, adz_v130, v137, adz_v137, v144, adz_v144, m4_, m10_, m16_, (by rw [ha.out]; exact putSel_upk 3 hb_ rfl rfl rfl), fun h0_ => absurd ((hon 3 (by kernel_rfl)).symm.trans h0_) (by decide), Q_HB, Q_HO131, Q_HA_HO131, Q_HI125_e3, Q_HO138, Q_HA_HO138, Q_HI125_e9, Q_HO145, Q_HA_HO145, Q_HI125_e15, Q_X4_, Q_X10_, Q_X16_⟩
                                refine steps_cons ?_ ?_
                                · rintro b a w' ⟨v130, adz_v130, v137, adz_v137, v144, adz_v144, m4_, m10_, m16_, ha, Q_HI125, Q_HB, Q_HO131, Q_HA_HO131, Q_HI125_e3, Q_HO138, Q_HA_HO138, Q_HI125_e9, Q_HO145, Q_HA_HO145, Q_HI125_e15, Q_X4_, Q_X10_, Q_X16_⟩ hb_ hon hoff
                                  refine ⟨_, rfl, fun K hK => ?_⟩
                                  have e14 : a.tmps[14]? = some (.string x4_1) := by rw [ha]; exact (putSel_off rfl).trans rfl
                                  have e19 : a.tmps[19]? = some (.string (rdOf ByteArray.empty y129 t132)) := by rw [ha]; exact putSel_on (e := (5, 19, .string (rdOf ByteArray.empty y129 t132))) 3 rfl rfl (hon 5 (by kernel_rfl)) rfl
                                  replace ha := Aside0.mk ha
                                  have HB := Aside0.mk Q_HB
                                  have HO131 := Aside0.mk (Q_HO131 (hon 1 (by kernel_rfl)))
                                  have HA_HO131 := Aside0.mk (Q_HA_HO131 (hon 1 (by kernel_rfl)))
                                  refine value_ (w1 := w') (v := .string (x4_1 ++ (rdOf ByteArray.empty y129 t132))) (by rfl) rfl ?_ ?_
                                  · go_simp
                                    (try simp only [i64_w])
                                    try rfl
                                  refine hK.out _ _ ⟨v130, adz_v130, v137, adz_v137, v144, adz_v144, m4_, m10_, m16_, (by rw [ha.out]; exact putSel_upk 4 hb_ rfl rfl rfl), fun h0_ => absurd ((hon 3 (by kernel_rfl)).symm.trans h0_) (by decide), Q_HB, Q_HO131, Q_HA_HO131, Q_HI125_e3, Q_HO138, Q_HA_HO138, Q_HI125_e9, Q_HO145, Q_HA_HO145, Q_HI125_e15, Q_X4_, Q_X10_, Q_X16_⟩
                                refine steps_cons ?_ ?_
                                · rintro b a w' ⟨v130, adz_v130, v137, adz_v137, v144, adz_v144, m4_, m10_, m16_, ha, Q_HI125, Q_HB, Q_HO131, Q_HA_HO131, Q_HI125_e3, Q_HO138, Q_HA_HO138, Q_HI125_e9, Q_HO145, Q_HA_HO145, Q_HI125_e15, Q_X4_, Q_X10_, Q_X16_⟩ hb_ hon hoff
                                  refine ⟨_, rfl, fun K hK => ?_⟩
                                  replace ha := Aside0.mk ha
                                  have HB := Aside0.mk Q_HB
                                  refine Kd.R_lit_step Kd.string _ 9 ?hg (N := 21) ?hd (xs := ([(⟨#[117, 61, 48]⟩ : ByteArray), (⟨#[117, 61, 55]⟩ : ByteArray), (⟨#[117, 61, 56]⟩ : ByteArray), (⟨#[117, 61]⟩ : ByteArray), (⟨#[117, 61, 51, 51]⟩ : ByteArray), (⟨#[105]⟩ : ByteArray), (⟨#[105, 61, 63, 49]⟩ : ByteArray), (⟨#[105, 61, 63, 48]⟩ : ByteArray), (⟨#[105, 61, 49]⟩ : ByteArray), (⟨#[120, 61, 53]⟩ : ByteArray), (⟨#[85, 61, 49]⟩ : ByteArray), (⟨#[117, 32, 61, 49]⟩ : ByteArray)] : List ByteArray)) (inner := [.string (⟨#[117, 61, 48]⟩ : ByteArray), .string (⟨#[117, 61, 55]⟩ : ByteArray), .string (⟨#[117, 61, 56]⟩ : ByteArray), .string (⟨#[117, 61]⟩ : ByteArray), .string (⟨#[117, 61, 51, 51]⟩ : ByteArray), .string (⟨#[105]⟩ : ByteArray), .string (⟨#[105, 61, 63, 49]⟩ : ByteArray), .string (⟨#[105, 61, 63, 48]⟩ : ByteArray), .string (⟨#[105, 61, 49]⟩ : ByteArray), .string (⟨#[120, 61, 53]⟩ : ByteArray), .string (⟨#[85, 61, 49]⟩ : ByteArray), .string (⟨#[117, 32, 61, 49]⟩ : ByteArray)]) (ok := fun _ => True) (okp := fun _ => True) ?hr ?hp (fun _ hk => hk) trivial (Below.refl _ _) (Nat.le_refl _) (by simp) ?_; (case hd => rfl); (case hg => rfl); (case hr => first | (go_simp; done) | (go_simp; rfl)); (case hp => exact (Reps.one (show Kd.M Kd.string _ _ _ (⟨#[117, 61, 48]⟩ : ByteArray) [.string (⟨#[117, 61, 48]⟩ : ByteArray)] from rfl) (Reps.one (show Kd.M Kd.string _ _ _ (⟨#[117, 61, 55]⟩ : ByteArray) [.string (⟨#[117, 61, 55]⟩ : ByteArray)] from rfl) (Reps.one (show Kd.M Kd.string _ _ _ (⟨#[117, 61, 56]⟩ : ByteArray) [.string (⟨#[117, 61, 56]⟩ : ByteArray)] from rfl) (Reps.one (show Kd.M Kd.string _ _ _ (⟨#[117, 61]⟩ : ByteArray) [.string (⟨#[117, 61]⟩ : ByteArray)] from rfl) (Reps.one (show Kd.M Kd.string _ _ _ (⟨#[117, 61, 51, 51]⟩ : ByteArray) [.string (⟨#[117, 61, 51, 51]⟩ : ByteArray)] from rfl) (Reps.one (show Kd.M Kd.string _ _ _ (⟨#[105]⟩ : ByteArray) [.string (⟨#[105]⟩ : ByteArray)] from rfl) (Reps.one (show Kd.M Kd.string _ _ _ (⟨#[105, 61, 63, 49]⟩ : ByteArray) [.string (⟨#[105, 61, 63, 49]⟩ : ByteArray)] from rfl) (Reps.one (show Kd.M Kd.string _ _ _ (⟨#[105, 61, 63, 48]⟩ : ByteArray) [.string (⟨#[105, 61, 63, 48]⟩ : ByteArray)] from rfl) (Reps.one (show Kd.M Kd.string _ _ _ (⟨#[105, 61, 49]⟩ : ByteArray) [.string (⟨#[105, 61, 49]⟩ : ByteArray)] from rfl) (Reps.one (show Kd.M Kd.string _ _ _ (⟨#[120, 61, 53]⟩ : ByteArray) [.string (⟨#[120, 61, 53]⟩ : ByteArray)] from rfl) (Reps.one (show Kd.M Kd.string _ _ _ (⟨#[85, 61, 49]⟩ : ByteArray) [.string (⟨#[85, 61, 49]⟩ : ByteArray)] from rfl) (Reps.one (show Kd.M Kd.string _ _ _ (⟨#[117, 32, 61, 49]⟩ : ByteArray) [.string (⟨#[117, 32, 61, 49]⟩ : ByteArray)] from rfl) (Reps.none _ _))))))))))))))
                                  intro v137 w60 ho61 hb hg_ hnew_
                                  clear hg_ hnew_
                                  (first | rw [← Ny136.out] at ho61 | (simp only [Int.reduceToNat] at ho61; rw [← Ny136.out] at ho61))
                                  have n0_ := Aside0.mk (Kd.R_lower ho61 (below_size (by repeat (first | (with_reducible first | exact HB.out | apply below_alloc | apply pw_below_drewN | apply below_drew1) | exact HB.out))))
                                  have n2_ := Aside0.mk (below_step (by repeat (first | (with_reducible first | exact HB.out | apply below_alloc | apply pw_below_drewN | apply below_drew1) | exact HB.out)) hb)
                                  have z_HI125 := fun (h0_ : b 3 = false) => (show IsS102 w w60 g125 t122 x126001_1 x126002_1 from by first | exact (IsS102.below (by repeat (first | (with_reducible first | exact (Q_HI125 h0_) | apply IsS102.alloc | apply IsS102.drewN | apply IsS102.drew | apply IsS102.set_1 | apply IsS102.set_2) | exact (Q_HI125 h0_))) hb))
                                  have z_HO131 := fun (h0_ : b 1 = true) => (show Kd.R Kd.string 9 w60 w.heap.size (fun _ => True) v130 y129 from by first | exact (Kd.R_elder' (by (with_reducible repeat (first | apply Kd.R_alloc | apply Kd.R_drewN | apply Kd.R_drew)); exact (Q_HO131 h0_)) (Kd.R_base ho61) hb) | exact Kd.R_mono (Kd.R_elder' (by (with_reducible repeat (first | apply Kd.R_alloc | apply Kd.R_drewN | apply Kd.R_drew)); exact (Q_HO131 h0_)) (Kd.R_base ho61) hb) (fun _ h_ => by first | trivial | exact h_ | exact h_.1))
                                  have z_HI125_e3 := fun (h0_ : b 3 = true) (h1_ : b 9 = false) => (show IsS102 w w60 g125 t122 t133 t134 from by first | exact (IsS102.below (by repeat (first | (with_reducible first | exact (Q_HI125_e3 h0_ h1_) | apply IsS102.alloc | apply IsS102.drewN | apply IsS102.drew | apply IsS102.set_1 | apply IsS102.set_2) | exact (Q_HI125_e3 h0_ h1_))) hb))
                                  have z_HI125_e9 := fun (h0_ : b 9 = true) (h1_ : b 15 = false) => (show IsS102 w w60 g125 t122 t140 t141 from by first | exact (IsS102.below (by repeat (first | (with_reducible first | exact (Q_HI125_e9 h0_ h1_) | apply IsS102.alloc | apply IsS102.drewN | apply IsS102.drew | apply IsS102.set_1 | apply IsS102.set_2) | exact (Q_HI125_e9 h0_ h1_))) hb))
                                  have z_HO145 := fun (h0_ : b 13 = true) => (show Kd.R Kd.string 9 w60 w.heap.size (fun _ => True) v144 y143 from by first | exact (Kd.R_elder' (by (with_reducible repeat (first | apply Kd.R_alloc | apply Kd.R_drewN | apply Kd.R_drew)); exact (Q_HO145 h0_)) (Kd.R_base ho61) hb) | exact Kd.R_mono (Kd.R_elder' (by (with_reducible repeat (first | apply Kd.R_alloc | apply Kd.R_drewN | apply Kd.R_drew)); exact (Q_HO145 h0_)) (Kd.R_base ho61) hb) (fun _ h_ => by first | trivial | exact h_ | exact h_.1))
                                  have z_HI125_e15 := fun (h0_ : b 15 = true) => (show IsS102 w w60 g125 t122 t147 t148 from by first | exact (IsS102.below (by repeat (first | (with_reducible first | exact (Q_HI125_e15 h0_) | apply IsS102.alloc | apply IsS102.drewN | apply IsS102.drew | apply IsS102.set_1 | apply IsS102.set_2) | exact (Q_HI125_e15 h0_))) hb))
                                  clear HB
                                  have HO138 := n0_
                                  have HB := n2_
                                  clear n0_ n2_
                                  clear hb ho61
                                  obtain ⟨Ao62, co62, eo62⟩ := Kd.R_slice HO138.out
                                  subst eo62
                                  obtain ⟨ado62, fo62, _⟩ := Kd.at_string (Kd.R_reads' HO138.out).2.2 0 (by decide) (by rw [Ny136.out]; simp)
                                  cases fo62
                                  refine hK.out _ _ ⟨v130, adz_v130, .slice (some ado62) y136.length co62, ado62, v144, adz_v144, m4_, m10_, m16_, (by rw [ha.out]; exact putSel_upk 5 hb_ rfl rfl rfl), z_HI125, (by repeat (first | (with_reducible first | exact HB.out | apply below_alloc | apply pw_below_drewN | apply below_drew1) | exact HB.out)), z_HO131, Q_HA_HO131, z_HI125_e3, fun _ => (by (with_reducible repeat (first | apply Kd.R_alloc | apply Kd.R_drewN | apply Kd.R_drew)); exact HO138.out), fun _ => ⟨_, rfl⟩, z_HI125_e9, z_HO145, Q_HA_HO145, z_HI125_e15, Q_X4_, fun h0_ => absurd ((hoff 10 (by kernel_rfl)).symm.trans h0_) (by decide), Q_X16_⟩
                                refine steps_cons ?_ ?_
                                · rintro b a w' ⟨v130, adz_v130, v137, adz_v137, v144, adz_v144, m4_, m10_, m16_, ha, Q_HI125, Q_HB, Q_HO131, Q_HA_HO131, Q_HI125_e3, Q_HO138, Q_HA_HO138, Q_HI125_e9, Q_HO145, Q_HA_HO145, Q_HI125_e15, Q_X4_, Q_X10_, Q_X16_⟩ hb_ hon hoff
                                  refine ⟨_, rfl, fun K hK => ?_⟩
                                  have e22 : a.tmps[22]? = some (.pointer (some ⟨g125, 0, none⟩)) := by rw [ha]; exact (putSel_off rfl).trans rfl
                                  replace ha := Aside0.mk ha
                                  have HB := Aside0.mk Q_HB
                                  have HI125 := Aside0.mk (Q_HI125_e3 (hon 3 (by kernel_rfl)) hb_)
                                  refine goes_ Tryd.func45 (by kernel_rfl) rfl #[.pointer (some ⟨g125, 0, none⟩), .int .i64 12] (by rfl) rfl rfl (by first | (simp only [List.map_toArray, List.map_cons, List.map_nil, Act.eval, Array.getD_eq_getD_getElem?, Option.getD_some, e22]; done) | (simp only [List.map_toArray, List.map_cons, List.map_nil, Act.eval, Array.getD_eq_getD_getElem?, Option.getD_some, e22]; rfl)) ?_
                                  with_reducible refine (spec_l01Src_next.calls g125 t122 t133 t134 12 t139 t140 t141 w _ ?side1 ?side2 A11.out).mono ?_
                                  (case side1 => repeat (first | (with_reducible first | exact HI125.out | apply IsS102.alloc | apply IsS102.drewN | apply IsS102.drew | apply IsS102.set_1 | apply IsS102.set_2) | exact HI125.out))
                                  (case side2 => repeat (first | (with_reducible first | exact HB.out | apply below_alloc | apply pw_below_drewN | apply below_drew1 | refine below_set ?_ (IsS102.ge HI125.out)) | exact HB.out))
                                  rintro e w62 ⟨rfl, hi, hb, hk⟩
                                  refine ⟨_, rfl, ?_⟩
                                  have n0_ := Aside0.mk (hb)
                                  have n1_ := Aside0.mk (hi)
                                  have z_HO131 := fun (h0_ : b 1 = true) => (show Kd.R Kd.string 9 w62 w.heap.size (fun _ => True) v130 y129 from by first | exact (Kd.R_mono (Kd.R_keep (IsS102.apart (show IsS102 w _ g125 t122 t133 t134 from by repeat (first | (with_reducible first | exact HI125.out | apply IsS102.alloc | apply IsS102.drewN | apply IsS102.drew | apply IsS102.set_1 | apply IsS102.set_2) | exact HI125.out)) (by (with_reducible repeat (first | apply Kd.R_alloc | apply Kd.R_drewN | apply Kd.R_drew)); exact (Q_HO131 h0_)) (by decide)) hk (fun _ h => h.2)) (fun _ h => h.1)) | exact Kd.R_mono (Kd.R_mono (Kd.R_keep (IsS102.apart (show IsS102 w _ g125 t122 t133 t134 from by repeat (first | (with_reducible first | exact HI125.out | apply IsS102.alloc | apply IsS102.drewN | apply IsS102.drew | apply IsS102.set_1 | apply IsS102.set_2) | exact HI125.out)) (by (with_reducible repeat (first | apply Kd.R_alloc | apply Kd.R_drewN | apply Kd.R_drew)); exact (Q_HO131 h0_)) (by decide)) hk (fun _ h => h.2)) (fun _ h => h.1)) (fun _ h_ => by first | trivial | exact h_ | exact h_.1))
                                  have z_HO138 := fun (h0_ : b 7 = true) => (show Kd.R Kd.string 9 w62 w.heap.size (fun _ => True) v137 y136 from by first | exact (Kd.R_mono (Kd.R_keep (IsS102.apart (show IsS102 w _ g125 t122 t133 t134 from by repeat (first | (with_reducible first | exact HI125.out | apply IsS102.alloc | apply IsS102.drewN | apply IsS102.drew | apply IsS102.set_1 | apply IsS102.set_2) | exact HI125.out)) (by (with_reducible repeat (first | apply Kd.R_alloc | apply Kd.R_drewN | apply Kd.R_drew)); exact (Q_HO138 h0_)) (by decide)) hk (fun _ h => h.2)) (fun _ h => h.1)) | exact Kd.R_mono (Kd.R_mono (Kd.R_keep (IsS102.apart (show IsS102 w _ g125 t122 t133 t134 from by repeat (first | (with_reducible first | exact HI125.out | apply IsS102.alloc | apply IsS102.drewN | apply IsS102.drew | apply IsS102.set_1 | apply IsS102.set_2) | exact HI125.out)) (by (with_reducible repeat (first | apply Kd.R_alloc | apply Kd.R_drewN | apply Kd.R_drew)); exact (Q_HO138 h0_)) (by decide)) hk (fun _ h => h.2)) (fun _ h => h.1)) (fun _ h_ => by first | trivial | exact h_ | exact h_.1))
                                  have z_HO145 := fun (h0_ : b 13 = true) => (show Kd.R Kd.string 9 w62 w.heap.size (fun _ => True) v144 y143 from by first | exact (Kd.R_mono (Kd.R_keep (IsS102.apart (show IsS102 w _ g125 t122 t133 t134 from by repeat (first | (with_reducible first | exact HI125.out | apply IsS102.alloc | apply IsS102.drewN | apply IsS102.drew | apply IsS102.set_1 | apply IsS102.set_2) | exact HI125.out)) (by (with_reducible repeat (first | apply Kd.R_alloc | apply Kd.R_drewN | apply Kd.R_drew)); exact (Q_HO145 h0_)) (by decide)) hk (fun _ h => h.2)) (fun _ h => h.1)) | exact Kd.R_mono (Kd.R_mono (Kd.R_keep (IsS102.apart (show IsS102 w _ g125 t122 t133 t134 from by repeat (first | (with_reducible first | exact HI125.out | apply IsS102.alloc | apply IsS102.drewN | apply IsS102.drew | apply IsS102.set_1 | apply IsS102.set_2) | exact HI125.out)) (by (with_reducible repeat (first | apply Kd.R_alloc | apply Kd.R_drewN | apply Kd.R_drew)); exact (Q_HO145 h0_)) (by decide)) hk (fun _ h => h.2)) (fun _ h => h.1)) (fun _ h_ => by first | trivial | exact h_ | exact h_.1))
                                  clear HB
                                  clear HI125
                                  have HB := n0_
                                  have HI125 := n1_
                                  clear n0_ n1_
                                  (try clear hb)
                                  (try clear hb2)
                                  (try clear hk)
                                  (try clear hi)
                                  refine hK.out _ _ ⟨v130, adz_v130, v137, adz_v137, v144, adz_v144, m4_, m10_, m16_, (by rw [ha.out]; exact putSel_upk 6 hb_ rfl rfl rfl), fun h0_ => absurd ((hon 3 (by kernel_rfl)).symm.trans h0_) (by decide), (by repeat (first | (with_reducible first | exact HB.out | apply below_alloc | apply pw_below_drewN | apply below_drew1 | refine below_set ?_ (IsS102.ge HI125.out)) | exact HB.out)), z_HO131, Q_HA_HO131, fun _ h1_ => absurd ((up_self b 9).symm.trans h1_) (by decide), z_HO138, Q_HA_HO138, fun _ _ => (by repeat (first | (with_reducible first | exact HI125.out | apply IsS102.alloc | apply IsS102.drewN | apply IsS102.drew | apply IsS102.set_1 | apply IsS102.set_2) | exact HI125.out)), z_HO145, Q_HA_HO145, fun h0_ => absurd ((hoff 15 (by kernel_rfl)).symm.trans h0_) (by decide), Q_X4_, fun h0_ => absurd ((hoff 10 (by kernel_rfl)).symm.trans h0_) (by decide), fun h0_ => absurd ((hoff 16 (by kernel_rfl)).symm.trans h0_) (by decide)⟩
                                refine steps_cons ?_ ?_
                                · rintro b a w' ⟨v130, adz_v130, v137, adz_v137, v144, adz_v144, m4_, m10_, m16_, ha, Q_HI125, Q_HB, Q_HO131, Q_HA_HO131, Q_HI125_e3, Q_HO138, Q_HA_HO138, Q_HI125_e9, Q_HO145, Q_HA_HO145, Q_HI125_e15, Q_X4_, Q_X10_, Q_X16_⟩ hb_ hon hoff
                                  refine ⟨_, rfl, fun K hK => ?_⟩
                                  have e21 : a.tmps[21]? = some (v137) := by rw [ha]; exact putSel_on (e := (7, 21, v137)) 5 rfl rfl (hon 7 (by kernel_rfl)) rfl
                                  have e23 : a.tmps[23]? = some (.int .i64 t139) := by rw [ha]; exact putSel_on (e := (9, 23, .int .i64 t139)) 6 rfl rfl (hon 9 (by kernel_rfl)) rfl
                                  replace ha := Aside0.mk ha
                                  have HB := Aside0.mk Q_HB
                                  have HO138 := Aside0.mk (Q_HO138 (hon 7 (by kernel_rfl)))
                                  have HA_HO138 := Aside0.mk (Q_HA_HO138 (hon 7 (by kernel_rfl)))
                                  obtain ⟨c_, hv_⟩ := HA_HO138.out
                                  rw [hv_] at e21
                                  refine value_ (w1 := w') (v := .pointer (some (adz_v137.add (t139).toNat))) (by rfl) rfl ?_ ?_
                                  · go_simp
                                    (try simp only [i64_w])
                                    try rfl
                                  refine hK.out _ _ ⟨v130, adz_v130, v137, adz_v137, v144, adz_v144, m4_, (.pointer (some (adz_v137.add (t139).toNat))), m16_, (by rw [ha.out]; exact putSel_upk 7 hb_ rfl rfl rfl), fun h0_ => absurd ((hon 3 (by kernel_rfl)).symm.trans h0_) (by decide), Q_HB, Q_HO131, Q_HA_HO131, fun _ h1_ => absurd ((hon 9 (by kernel_rfl)).symm.trans h1_) (by decide), Q_HO138, Q_HA_HO138, Q_HI125_e9, Q_HO145, Q_HA_HO145, Q_HI125_e15, Q_X4_, fun _ => rfl, Q_X16_⟩
                                refine steps_cons ?_ ?_
                                · rintro b a w' ⟨v130, adz_v130, v137, adz_v137, v144, adz_v144, m4_, m10_, m16_, ha, Q_HI125, Q_HB, Q_HO131, Q_HA_HO131, Q_HI125_e3, Q_HO138, Q_HA_HO138, Q_HI125_e9, Q_HO145, Q_HA_HO145, Q_HI125_e15, Q_X4_, Q_X10_, Q_X16_⟩ hb_ hon hoff
                                  refine ⟨_, rfl, fun K hK => ?_⟩
                                  have e24 : a.tmps[24]? = some (m10_) := by rw [ha]; exact putSel_on (e := (10, 24, m10_)) 7 rfl rfl (hon 10 (by kernel_rfl)) rfl
                                  rw [Q_X10_ (hon 10 (by kernel_rfl))] at e24
                                  replace ha := Aside0.mk ha
                                  have HB := Aside0.mk Q_HB
                                  have HO138 := Aside0.mk (Q_HO138 (hon 7 (by kernel_rfl)))
                                  have HA_HO138 := Aside0.mk (Q_HA_HO138 (hon 7 (by kernel_rfl)))
                                  obtain ⟨c_, hv_⟩ := HA_HO138.out
                                  have hF_ := HO138.out
                                  rw [hv_] at hF_
                                  obtain ⟨ad_, ea_, hx_⟩ := Kd.at_string (Kd.R_reads' hF_).2.2 t139 (of_eq_true pi142) (of_eq_true qi142)
                                  cases ea_
                                  refine value_ (w1 := w') (v := .string (rdOf ByteArray.empty y136 t139)) (by rfl) rfl ?_ ?_
                                  · go_simp
                                    (try simp only [i64_w])
                                    try rfl
                                  refine hK.out _ _ ⟨v130, adz_v130, v137, adz_v137, v144, adz_v144, m4_, m10_, m16_, (by rw [ha.out]; exact putSel_upk 8 hb_ rfl rfl rfl), fun h0_ => absurd ((hon 3 (by kernel_rfl)).symm.trans h0_) (by decide), Q_HB, Q_HO131, Q_HA_HO131, fun _ h1_ => absurd ((hon 9 (by kernel_rfl)).symm.trans h1_) (by decide), Q_HO138, Q_HA_HO138, Q_HI125_e9, Q_HO145, Q_HA_HO145, Q_HI125_e15, Q_X4_, Q_X10_, Q_X16_⟩
                                refine steps_cons ?_ ?_
                                · rintro b a w' ⟨v130, adz_v130, v137, adz_v137, v144, adz_v144, m4_, m10_, m16_, ha, Q_HI125, Q_HB, Q_HO131, Q_HA_HO131, Q_HI125_e3, Q_HO138, Q_HA_HO138, Q_HI125_e9, Q_HO145, Q_HA_HO145, Q_HI125_e15, Q_X4_, Q_X10_, Q_X16_⟩ hb_ hon hoff
                                  refine ⟨_, rfl, fun K hK => ?_⟩
                                  have e20 : a.tmps[20]? = some (.string (x4_1 ++ (rdOf ByteArray.empty y129 t132))) := by rw [ha]; exact putSel_on (e := (6, 20, .string (x4_1 ++ (rdOf ByteArray.empty y129 t132)))) 4 rfl rfl (hon 6 (by kernel_rfl)) rfl
                                  have e25 : a.tmps[25]? = some (.string (rdOf ByteArray.empty y136 t139)) := by rw [ha]; exact putSel_on (e := (11, 25, .string (rdOf ByteArray.empty y136 t139))) 8 rfl rfl (hon 11 (by kernel_rfl)) rfl
                                  replace ha := Aside0.mk ha
                                  have HB := Aside0.mk Q_HB
                                  have HO131 := Aside0.mk (Q_HO131 (hon 1 (by kernel_rfl)))
                                  have HA_HO131 := Aside0.mk (Q_HA_HO131 (hon 1 (by kernel_rfl)))
                                  have HO138 := Aside0.mk (Q_HO138 (hon 7 (by kernel_rfl)))
                                  have HA_HO138 := Aside0.mk (Q_HA_HO138 (hon 7 (by kernel_rfl)))
                                  refine value_ (w1 := w') (v := .string ((x4_1 ++ (rdOf ByteArray.empty y129 t132)) ++ (rdOf ByteArray.empty y136 t139))) (by rfl) rfl ?_ ?_
                                  · go_simp
                                    (try simp only [i64_w])
                                    try rfl
                                  refine hK.out _ _ ⟨v130, adz_v130, v137, adz_v137, v144, adz_v144, m4_, m10_, m16_, (by rw [ha.out]; exact putSel_upk 9 hb_ rfl rfl rfl), fun h0_ => absurd ((hon 3 (by kernel_rfl)).symm.trans h0_) (by decide), Q_HB, Q_HO131, Q_HA_HO131, fun _ h1_ => absurd ((hon 9 (by kernel_rfl)).symm.trans h1_) (by decide), Q_HO138, Q_HA_HO138, Q_HI125_e9, Q_HO145, Q_HA_HO145, Q_HI125_e15, Q_X4_, Q_X10_, Q_X16_⟩
                                refine steps_cons ?_ ?_
                                · rintro b a w' ⟨v130, adz_v130, v137, adz_v137, v144, adz_v144, m4_, m10_, m16_, ha, Q_HI125, Q_HB, Q_HO131, Q_HA_HO131, Q_HI125_e3, Q_HO138, Q_HA_HO138, Q_HI125_e9, Q_HO145, Q_HA_HO145, Q_HI125_e15, Q_X4_, Q_X10_, Q_X16_⟩ hb_ hon hoff
                                  refine ⟨_, rfl, fun K hK => ?_⟩
                                  replace ha := Aside0.mk ha
                                  have HB := Aside0.mk Q_HB
                                  refine Kd.R_lit_step Kd.string _ 9 ?hg (N := 27) ?hd (xs := ([(⟨#[]⟩ : ByteArray), (⟨#[32]⟩ : ByteArray)] : List ByteArray)) (inner := [.string (⟨#[]⟩ : ByteArray), .string (⟨#[32]⟩ : ByteArray)]) (ok := fun _ => True) (okp := fun _ => True) ?hr ?hp (fun _ hk => hk) trivial (Below.refl _ _) (Nat.le_refl _) (by simp) ?_; (case hd => rfl); (case hg => rfl); (case hr => first | (go_simp; done) | (go_simp; rfl)); (case hp => exact (Reps.one (show Kd.M Kd.string _ _ _ (⟨#[]⟩ : ByteArray) [.string (⟨#[]⟩ : ByteArray)] from rfl) (Reps.one (show Kd.M Kd.string _ _ _ (⟨#[32]⟩ : ByteArray) [.string (⟨#[32]⟩ : ByteArray)] from rfl) (Reps.none _ _))))
                                  intro v144 w60 ho61 hb hg_ hnew_
                                  clear hg_ hnew_
                                  (first | rw [← Ny143.out] at ho61 | (simp only [Int.reduceToNat] at ho61; rw [← Ny143.out] at ho61))
                                  have n0_ := Aside0.mk (Kd.R_lower ho61 (below_size (by repeat (first | (with_reducible first | exact HB.out | apply below_alloc | apply pw_below_drewN | apply below_drew1) | exact HB.out))))
                                  have n2_ := Aside0.mk (below_step (by repeat (first | (with_reducible first | exact HB.out | apply below_alloc | apply pw_below_drewN | apply below_drew1) | exact HB.out)) hb)
                                  have z_HI125 := fun (h0_ : b 3 = false) => (show IsS102 w w60 g125 t122 x126001_1 x126002_1 from by first | exact (IsS102.below (by repeat (first | (with_reducible first | exact (Q_HI125 h0_) | apply IsS102.alloc | apply IsS102.drewN | apply IsS102.drew | apply IsS102.set_1 | apply IsS102.set_2) | exact (Q_HI125 h0_))) hb))
                                  have z_HO131 := fun (h0_ : b 1 = true) => (show Kd.R Kd.string 9 w60 w.heap.size (fun _ => True) v130 y129 from by first | exact (Kd.R_elder' (by (with_reducible repeat (first | apply Kd.R_alloc | apply Kd.R_drewN | apply Kd.R_drew)); exact (Q_HO131 h0_)) (Kd.R_base ho61) hb) | exact Kd.R_mono (Kd.R_elder' (by (with_reducible repeat (first | apply Kd.R_alloc | apply Kd.R_drewN | apply Kd.R_drew)); exact (Q_HO131 h0_)) (Kd.R_base ho61) hb) (fun _ h_ => by first | trivial | exact h_ | exact h_.1))
                                  have z_HI125_e3 := fun (h0_ : b 3 = true) (h1_ : b 9 = false) => (show IsS102 w w60 g125 t122 t133 t134 from by first | exact (IsS102.below (by repeat (first | (with_reducible first | exact (Q_HI125_e3 h0_ h1_) | apply IsS102.alloc | apply IsS102.drewN | apply IsS102.drew | apply IsS102.set_1 | apply IsS102.set_2) | exact (Q_HI125_e3 h0_ h1_))) hb))
                                  have z_HO138 := fun (h0_ : b 7 = true) => (show Kd.R Kd.string 9 w60 w.heap.size (fun _ => True) v137 y136 from by first | exact (Kd.R_elder' (by (with_reducible repeat (first | apply Kd.R_alloc | apply Kd.R_drewN | apply Kd.R_drew)); exact (Q_HO138 h0_)) (Kd.R_base ho61) hb) | exact Kd.R_mono (Kd.R_elder' (by (with_reducible repeat (first | apply Kd.R_alloc | apply Kd.R_drewN | apply Kd.R_drew)); exact (Q_HO138 h0_)) (Kd.R_base ho61) hb) (fun _ h_ => by first | trivial | exact h_ | exact h_.1))
                                  have z_HI125_e9 := fun (h0_ : b 9 = true) (h1_ : b 15 = false) => (show IsS102 w w60 g125 t122 t140 t141 from by first | exact (IsS102.below (by repeat (first | (with_reducible first | exact (Q_HI125_e9 h0_ h1_) | apply IsS102.alloc | apply IsS102.drewN | apply IsS102.drew | apply IsS102.set_1 | apply IsS102.set_2) | exact (Q_HI125_e9 h0_ h1_))) hb))
                                  have z_HI125_e15 := fun (h0_ : b 15 = true) => (show IsS102 w w60 g125 t122 t147 t148 from by first | exact (IsS102.below (by repeat (first | (with_reducible first | exact (Q_HI125_e15 h0_) | apply IsS102.alloc | apply IsS102.drewN | apply IsS102.drew | apply IsS102.set_1 | apply IsS102.set_2) | exact (Q_HI125_e15 h0_))) hb))
                                  clear HB
                                  have HO145 := n0_
                                  have HB := n2_
                                  clear n0_ n2_
                                  clear hb ho61
                                  obtain ⟨Ao62, co62, eo62⟩ := Kd.R_slice HO145.out
                                  subst eo62
                                  obtain ⟨ado62, fo62, _⟩ := Kd.at_string (Kd.R_reads' HO145.out).2.2 0 (by decide) (by rw [Ny143.out]; simp)
                                  cases fo62
                                  refine hK.out _ _ ⟨v130, adz_v130, v137, adz_v137, .slice (some ado62) y143.length co62, ado62, m4_, m10_, m16_, (by rw [ha.out]; exact putSel_upk 10 hb_ rfl rfl rfl), z_HI125, (by repeat (first | (with_reducible first | exact HB.out | apply below_alloc | apply pw_below_drewN | apply below_drew1) | exact HB.out)), z_HO131, Q_HA_HO131, z_HI125_e3, z_HO138, Q_HA_HO138, z_HI125_e9, fun _ => (by (with_reducible repeat (first | apply Kd.R_alloc | apply Kd.R_drewN | apply Kd.R_drew)); exact HO145.out), fun _ => ⟨_, rfl⟩, z_HI125_e15, Q_X4_, Q_X10_, fun h0_ => absurd ((hoff 16 (by kernel_rfl)).symm.trans h0_) (by decide)⟩
                                refine steps_cons ?_ ?_
                                · rintro b a w' ⟨v130, adz_v130, v137, adz_v137, v144, adz_v144, m4_, m10_, m16_, ha, Q_HI125, Q_HB, Q_HO131, Q_HA_HO131, Q_HI125_e3, Q_HO138, Q_HA_HO138, Q_HI125_e9, Q_HO145, Q_HA_HO145, Q_HI125_e15, Q_X4_, Q_X10_, Q_X16_⟩ hb_ hon hoff
                                  refine ⟨_, rfl, fun K hK => ?_⟩
                                  have e28 : a.tmps[28]? = some (.pointer (some ⟨g125, 0, none⟩)) := by rw [ha]; exact (putSel_off rfl).trans rfl
                                  replace ha := Aside0.mk ha
                                  have HB := Aside0.mk Q_HB
                                  have HI125 := Aside0.mk (Q_HI125_e9 (hon 9 (by kernel_rfl)) hb_)
                                  refine goes_ Tryd.func45 (by kernel_rfl) rfl #[.pointer (some ⟨g125, 0, none⟩), .int .i64 2] (by rfl) rfl rfl (by first | (simp only [List.map_toArray, List.map_cons, List.map_nil, Act.eval, Array.getD_eq_getD_getElem?, Option.getD_some, e28]; done) | (simp only [List.map_toArray, List.map_cons, List.map_nil, Act.eval, Array.getD_eq_getD_getElem?, Option.getD_some, e28]; rfl)) ?_
                                  with_reducible refine (spec_l01Src_next.calls g125 t122 t140 t141 2 t146 t147 t148 w _ ?side1 ?side2 A15.out).mono ?_
                                  (case side1 => repeat (first | (with_reducible first | exact HI125.out | apply IsS102.alloc | apply IsS102.drewN | apply IsS102.drew | apply IsS102.set_1 | apply IsS102.set_2) | exact HI125.out))
                                  (case side2 => repeat (first | (with_reducible first | exact HB.out | apply below_alloc | apply pw_below_drewN | apply below_drew1 | refine below_set ?_ (IsS102.ge HI125.out)) | exact HB.out))
                                  rintro e w63 ⟨rfl, hi, hb, hk⟩
                                  refine ⟨_, rfl, ?_⟩
                                  have n0_ := Aside0.mk (hb)
                                  have n1_ := Aside0.mk (hi)
                                  have z_HO131 := fun (h0_ : b 1 = true) => (show Kd.R Kd.string 9 w63 w.heap.size (fun _ => True) v130 y129 from by first | exact (Kd.R_mono (Kd.R_keep (IsS102.apart (show IsS102 w _ g125 t122 t140 t141 from by repeat (first | (with_reducible first | exact HI125.out | apply IsS102.alloc | apply IsS102.drewN | apply IsS102.drew | apply IsS102.set_1 | apply IsS102.set_2) | exact HI125.out)) (by (with_reducible repeat (first | apply Kd.R_alloc | apply Kd.R_drewN | apply Kd.R_drew)); exact (Q_HO131 h0_)) (by decide)) hk (fun _ h => h.2)) (fun _ h => h.1)) | exact Kd.R_mono (Kd.R_mono (Kd.R_keep (IsS102.apart (show IsS102 w _ g125 t122 t140 t141 from by repeat (first | (with_reducible first | exact HI125.out | apply IsS102.alloc | apply IsS102.drewN | apply IsS102.drew | apply IsS102.set_1 | apply IsS102.set_2) | exact HI125.out)) (by (with_reducible repeat (first | apply Kd.R_alloc | apply Kd.R_drewN | apply Kd.R_drew)); exact (Q_HO131 h0_)) (by decide)) hk (fun _ h => h.2)) (fun _ h => h.1)) (fun _ h_ => by first | trivial | exact h_ | exact h_.1))
                                  have z_HO138 := fun (h0_ : b 7 = true) => (show Kd.R Kd.string 9 w63 w.heap.size (fun _ => True) v137 y136 from by first | exact (Kd.R_mono (Kd.R_keep (IsS102.apart (show IsS102 w _ g125 t122 t140 t141 from by repeat (first | (with_reducible first | exact HI125.out | apply IsS102.alloc | apply IsS102.drewN | apply IsS102.drew | apply IsS102.set_1 | apply IsS102.set_2) | exact HI125.out)) (by (with_reducible repeat (first | apply Kd.R_alloc | apply Kd.R_drewN | apply Kd.R_drew)); exact (Q_HO138 h0_)) (by decide)) hk (fun _ h => h.2)) (fun _ h => h.1)) | exact Kd.R_mono (Kd.R_mono (Kd.R_keep (IsS102.apart (show IsS102 w _ g125 t122 t140 t141 from by repeat (first | (with_reducible first | exact HI125.out | apply IsS102.alloc | apply IsS102.drewN | apply IsS102.drew | apply IsS102.set_1 | apply IsS102.set_2) | exact HI125.out)) (by (with_reducible repeat (first | apply Kd.R_alloc | apply Kd.R_drewN | apply Kd.R_drew)); exact (Q_HO138 h0_)) (by decide)) hk (fun _ h => h.2)) (fun _ h => h.1)) (fun _ h_ => by first | trivial | exact h_ | exact h_.1))
                                  have z_HO145 := fun (h0_ : b 13 = true) => (show Kd.R Kd.string 9 w63 w.heap.size (fun _ => True) v144 y143 from by first | exact (Kd.R_mono (Kd.R_keep (IsS102.apart (show IsS102 w _ g125 t122 t140 t141 from by repeat (first | (with_reducible first | exact HI125.out | apply IsS102.alloc | apply IsS102.drewN | apply IsS102.drew | apply IsS102.set_1 | apply IsS102.set_2) | exact HI125.out)) (by (with_reducible repeat (first | apply Kd.R_alloc | apply Kd.R_drewN | apply Kd.R_drew)); exact (Q_HO145 h0_)) (by decide)) hk (fun _ h => h.2)) (fun _ h => h.1)) | exact Kd.R_mono (Kd.R_mono (Kd.R_keep (IsS102.apart (show IsS102 w _ g125 t122 t140 t141 from by repeat (first | (with_reducible first | exact HI125.out | apply IsS102.alloc | apply IsS102.drewN | apply IsS102.drew | apply IsS102.set_1 | apply IsS102.set_2) | exact HI125.out)) (by (with_reducible repeat (first | apply Kd.R_alloc | apply Kd.R_drewN | apply Kd.R_drew)); exact (Q_HO145 h0_)) (by decide)) hk (fun _ h => h.2)) (fun _ h => h.1)) (fun _ h_ => by first | trivial | exact h_ | exact h_.1))
                                  clear HB
                                  clear HI125
                                  have HB := n0_
                                  have HI125 := n1_
                                  clear n0_ n1_
                                  (try clear hb)
                                  (try clear hb2)
                                  (try clear hk)
                                  (try clear hi)
                                  refine hK.out _ _ ⟨v130, adz_v130, v137, adz_v137, v144, adz_v144, m4_, m10_, m16_, (by rw [ha.out]; exact putSel_upk 11 hb_ rfl rfl rfl), fun h0_ => absurd ((hon 3 (by kernel_rfl)).symm.trans h0_) (by decide), (by repeat (first | (with_reducible first | exact HB.out | apply below_alloc | apply pw_below_drewN | apply below_drew1 | refine below_set ?_ (IsS102.ge HI125.out)) | exact HB.out)), z_HO131, Q_HA_HO131, fun _ h1_ => absurd ((hon 9 (by kernel_rfl)).symm.trans h1_) (by decide), z_HO138, Q_HA_HO138, fun _ h1_ => absurd ((up_self b 15).symm.trans h1_) (by decide), z_HO145, Q_HA_HO145, fun _ => (by repeat (first | (with_reducible first | exact HI125.out | apply IsS102.alloc | apply IsS102.drewN | apply IsS102.drew | apply IsS102.set_1 | apply IsS102.set_2) | exact HI125.out)), Q_X4_, Q_X10_, fun h0_ => absurd ((hoff 16 (by kernel_rfl)).symm.trans h0_) (by decide)⟩
                                refine steps_cons ?_ ?_
                                · rintro b a w' ⟨v130, adz_v130, v137, adz_v137, v144, adz_v144, m4_, m10_, m16_, ha, Q_HI125, Q_HB, Q_HO131, Q_HA_HO131, Q_HI125_e3, Q_HO138, Q_HA_HO138, Q_HI125_e9, Q_HO145, Q_HA_HO145, Q_HI125_e15, Q_X4_, Q_X10_, Q_X16_⟩ hb_ hon hoff
                                  refine ⟨_, rfl, fun K hK => ?_⟩
                                  have e27 : a.tmps[27]? = some (v144) := by rw [ha]; exact putSel_on (e := (13, 27, v144)) 10 rfl rfl (hon 13 (by kernel_rfl)) rfl
                                  have e29 : a.tmps[29]? = some (.int .i64 t146) := by rw [ha]; exact putSel_on (e := (15, 29, .int .i64 t146)) 11 rfl rfl (hon 15 (by kernel_rfl)) rfl
                                  replace ha := Aside0.mk ha
                                  have HB := Aside0.mk Q_HB
                                  have HO145 := Aside0.mk (Q_HO145 (hon 13 (by kernel_rfl)))
                                  have HA_HO145 := Aside0.mk (Q_HA_HO145 (hon 13 (by kernel_rfl)))
                                  have HI125 := Aside0.mk (Q_HI125_e15 (hon 15 (by kernel_rfl)))
                                  obtain ⟨c_, hv_⟩ := HA_HO145.out
                                  rw [hv_] at e27
                                  refine value_ (w1 := w') (v := .pointer (some (adz_v144.add (t146).toNat))) (by rfl) rfl ?_ ?_
                                  · go_simp
                                    (try simp only [i64_w])
                                    try rfl
                                  refine hK.out _ _ ⟨v130, adz_v130, v137, adz_v137, v144, adz_v144, m4_, m10_, (.pointer (some (adz_v144.add (t146).toNat))), (by rw [ha.out]; exact putSel_upk 12 hb_ rfl rfl rfl), fun h0_ => absurd ((hon 3 (by kernel_rfl)).symm.trans h0_) (by decide), Q_HB, Q_HO131, Q_HA_HO131, fun _ h1_ => absurd ((hon 9 (by kernel_rfl)).symm.trans h1_) (by decide), Q_HO138, Q_HA_HO138, fun _ h1_ => absurd ((hon 15 (by kernel_rfl)).symm.trans h1_) (by decide), Q_HO145, Q_HA_HO145, Q_HI125_e15, Q_X4_, Q_X10_, fun _ => rfl⟩
                                refine steps_cons ?_ ?_
                                · rintro b a w' ⟨v130, adz_v130, v137, adz_v137, v144, adz_v144, m4_, m10_, m16_, ha, Q_HI125, Q_HB, Q_HO131, Q_HA_HO131, Q_HI125_e3, Q_HO138, Q_HA_HO138, Q_HI125_e9, Q_HO145, Q_HA_HO145, Q_HI125_e15, Q_X4_, Q_X10_, Q_X16_⟩ hb_ hon hoff
                                  refine ⟨_, rfl, fun K hK => ?_⟩
                                  have e30 : a.tmps[30]? = some (m16_) := by rw [ha]; exact putSel_on (e := (16, 30, m16_)) 12 rfl rfl (hon 16 (by kernel_rfl)) rfl
                                  rw [Q_X16_ (hon 16 (by kernel_rfl))] at e30
                                  replace ha := Aside0.mk ha
                                  have HB := Aside0.mk Q_HB
                                  have HO145 := Aside0.mk (Q_HO145 (hon 13 (by kernel_rfl)))
                                  have HA_HO145 := Aside0.mk (Q_HA_HO145 (hon 13 (by kernel_rfl)))
                                  have HI125 := Aside0.mk (Q_HI125_e15 (hon 15 (by kernel_rfl)))
                                  obtain ⟨c_, hv_⟩ := HA_HO145.out
                                  have hF_ := HO145.out
                                  rw [hv_] at hF_
                                  obtain ⟨ad_, ea_, hx_⟩ := Kd.at_string (Kd.R_reads' hF_).2.2 t146 (of_eq_true pi149) (of_eq_true qi149)
                                  cases ea_
                                  refine value_ (w1 := w') (v := .string (rdOf ByteArray.empty y143 t146)) (by rfl) rfl ?_ ?_
                                  · go_simp
                                    (try simp only [i64_w])
                                    try rfl
                                  refine hK.out _ _ ⟨v130, adz_v130, v137, adz_v137, v144, adz_v144, m4_, m10_, m16_, (by rw [ha.out]; exact putSel_upk 13 hb_ rfl rfl rfl), fun h0_ => absurd ((hon 3 (by kernel_rfl)).symm.trans h0_) (by decide), Q_HB, Q_HO131, Q_HA_HO131, fun _ h1_ => absurd ((hon 9 (by kernel_rfl)).symm.trans h1_) (by decide), Q_HO138, Q_HA_HO138, fun _ h1_ => absurd ((hon 15 (by kernel_rfl)).symm.trans h1_) (by decide), Q_HO145, Q_HA_HO145, Q_HI125_e15, Q_X4_, Q_X10_, Q_X16_⟩
                                refine steps_cons ?_ ?_
                                · rintro b a w' ⟨v130, adz_v130, v137, adz_v137, v144, adz_v144, m4_, m10_, m16_, ha, Q_HI125, Q_HB, Q_HO131, Q_HA_HO131, Q_HI125_e3, Q_HO138, Q_HA_HO138, Q_HI125_e9, Q_HO145, Q_HA_HO145, Q_HI125_e15, Q_X4_, Q_X10_, Q_X16_⟩ hb_ hon hoff
                                  refine ⟨_, rfl, fun K hK => ?_⟩
                                  have e26 : a.tmps[26]? = some (.string ((x4_1 ++ (rdOf ByteArray.empty y129 t132)) ++ (rdOf ByteArray.empty y136 t139))) := by rw [ha]; exact putSel_on (e := (12, 26, .string ((x4_1 ++ (rdOf ByteArray.empty y129 t132)) ++ (rdOf ByteArray.empty y136 t139)))) 9 rfl rfl (hon 12 (by kernel_rfl)) rfl
                                  have e31 : a.tmps[31]? = some (.string (rdOf ByteArray.empty y143 t146)) := by rw [ha]; exact putSel_on (e := (17, 31, .string (rdOf ByteArray.empty y143 t146))) 13 rfl rfl (hon 17 (by kernel_rfl)) rfl
                                  replace ha := Aside0.mk ha
                                  have HB := Aside0.mk Q_HB
                                  have HO131 := Aside0.mk (Q_HO131 (hon 1 (by kernel_rfl)))
                                  have HA_HO131 := Aside0.mk (Q_HA_HO131 (hon 1 (by kernel_rfl)))
                                  have HO138 := Aside0.mk (Q_HO138 (hon 7 (by kernel_rfl)))
                                  have HA_HO138 := Aside0.mk (Q_HA_HO138 (hon 7 (by kernel_rfl)))
                                  have HO145 := Aside0.mk (Q_HO145 (hon 13 (by kernel_rfl)))
                                  have HA_HO145 := Aside0.mk (Q_HA_HO145 (hon 13 (by kernel_rfl)))
                                  have HI125 := Aside0.mk (Q_HI125_e15 (hon 15 (by kernel_rfl)))
                                  refine value_ (w1 := w') (v := .string (((x4_1 ++ (rdOf ByteArray.empty y129 t132)) ++ (rdOf ByteArray.empty y136 t139)) ++ (rdOf ByteArray.empty y143 t146))) (by rfl) rfl ?_ ?_
                                  · go_simp
                                    (try simp only [i64_w])
                                    try rfl
                                  refine hK.out _ _ ⟨v130, adz_v130, v137, adz_v137, v144, adz_v144, m4_, m10_, m16_, (by rw [ha.out]; exact putSel_upk 14 hb_ rfl rfl rfl), fun h0_ => absurd ((hon 3 (by kernel_rfl)).symm.trans h0_) (by decide), Q_HB, Q_HO131, Q_HA_HO131, fun _ h1_ => absurd ((hon 9 (by kernel_rfl)).symm.trans h1_) (by decide), Q_HO138, Q_HA_HO138, fun _ h1_ => absurd ((hon 15 (by kernel_rfl)).symm.trans h1_) (by decide), Q_HO145, Q_HA_HO145, Q_HI125_e15, Q_X4_, Q_X10_, Q_X16_⟩
                                refine steps_cons ?_ ?_
                                · rintro b a w' ⟨v130, adz_v130, v137, adz_v137, v144, adz_v144, m4_, m10_, m16_, ha, Q_HI125, Q_HB, Q_HO131, Q_HA_HO131, Q_HI125_e3, Q_HO138, Q_HA_HO138, Q_HI125_e9, Q_HO145, Q_HA_HO145, Q_HI125_e15, Q_X4_, Q_X10_, Q_X16_⟩ hb_ hon hoff
                                  refine ⟨_, rfl, fun K hK => ?_⟩
                                  have e32 : a.tmps[32]? = some (.string (((x4_1 ++ (rdOf ByteArray.empty y129 t132)) ++ (rdOf ByteArray.empty y136 t139)) ++ (rdOf ByteArray.empty y143 t146))) := by rw [ha]; exact putSel_on (e := (18, 32, .string (((x4_1 ++ (rdOf ByteArray.empty y129 t132)) ++ (rdOf ByteArray.empty y136 t139)) ++ (rdOf ByteArray.empty y143 t146)))) 14 rfl rfl (hon 18 (by kernel_rfl)) rfl
                                  replace ha := Aside0.mk ha
                                  have HB := Aside0.mk Q_HB
                                  have HO131 := Aside0.mk (Q_HO131 (hon 1 (by kernel_rfl)))
                                  have HA_HO131 := Aside0.mk (Q_HA_HO131 (hon 1 (by kernel_rfl)))
                                  have HO138 := Aside0.mk (Q_HO138 (hon 7 (by kernel_rfl)))
                                  have HA_HO138 := Aside0.mk (Q_HA_HO138 (hon 7 (by kernel_rfl)))
                                  have HO145 := Aside0.mk (Q_HO145 (hon 13 (by kernel_rfl)))
                                  have HA_HO145 := Aside0.mk (Q_HA_HO145 (hon 13 (by kernel_rfl)))
                                  have HI125 := Aside0.mk (Q_HI125_e15 (hon 15 (by kernel_rfl)))
                                  refine value_ (w1 := w') (v := .string (((x4_1 ++ (rdOf ByteArray.empty y129 t132)) ++ (rdOf ByteArray.empty y136 t139)) ++ (rdOf ByteArray.empty y143 t146))) (by rfl) rfl ?_ ?_
                                  · go_simp
                                    (try simp only [i64_w])
                                    try rfl
                                  refine hK.out _ _ ⟨v130, adz_v130, v137, adz_v137, v144, adz_v144, m4_, m10_, m16_, (by rw [ha.out]; exact putSel_upk 15 hb_ rfl rfl rfl), fun h0_ => absurd ((hon 3 (by kernel_rfl)).symm.trans h0_) (by decide), Q_HB, Q_HO131, Q_HA_HO131, fun _ h1_ => absurd ((hon 9 (by kernel_rfl)).symm.trans h1_) (by decide), Q_HO138, Q_HA_HO138, fun _ h1_ => absurd ((hon 15 (by kernel_rfl)).symm.trans h1_) (by decide), Q_HO145, Q_HA_HO145, Q_HI125_e15, Q_X4_, Q_X10_, Q_X16_⟩
                                exact steps_nil
                              rintro b a w72 hall ⟨v130, adz_v130, v137, adz_v137, v144, adz_v144, m4_, m10_, m16_, ha, Q_HI125, Q_HB, Q_HO131, Q_HA_HO131, Q_HI125_e3, Q_HO138, Q_HA_HO138, Q_HI125_e9, Q_HO145, Q_HA_HO145, Q_HI125_e15, Q_X4_, Q_X10_, Q_X16_⟩
                              clear HB HI125
                              have hb1_ := hall 1 (by kernel_rfl)
                              have hb3_ := hall 3 (by kernel_rfl)
                              have hb4_ := hall 4 (by kernel_rfl)
                              have hb5_ := hall 5 (by kernel_rfl)
                              have hb6_ := hall 6 (by kernel_rfl)
                              have hb7_ := hall 7 (by kernel_rfl)
                              have hb9_ := hall 9 (by kernel_rfl)
                              have hb10_ := hall 10 (by kernel_rfl)
                              have hb11_ := hall 11 (by kernel_rfl)
                              have hb12_ := hall 12 (by kernel_rfl)
                              have hb13_ := hall 13 (by kernel_rfl)
                              have hb15_ := hall 15 (by kernel_rfl)
                              have hb16_ := hall 16 (by kernel_rfl)
                              have hb17_ := hall 17 (by kernel_rfl)
                              have hb18_ := hall 18 (by kernel_rfl)
                              have hb19_ := hall 19 (by kernel_rfl)
                              subst ha
                              obtain rfl := Q_X4_ hb4_
                              obtain rfl := Q_X10_ hb10_
                              obtain rfl := Q_X16_ hb16_
                              simp only [putSel, hb1_, hb3_, hb4_, hb5_, hb6_, hb7_, hb9_, hb10_, hb11_, hb12_, hb13_, hb15_, hb16_, hb17_, hb18_, hb19_, if_true, Act.put, List.setIfInBounds_toArray, List.set_cons_zero, List.set_cons_succ]
                              clear Q_HI125
                              have HB := Aside0.mk Q_HB
                              clear Q_HB
                              have HO131 := Aside0.mk (Q_HO131 hb1_)
                              clear Q_HO131
                              have HA_HO131 := Aside0.mk (Q_HA_HO131 hb1_)
                              clear Q_HA_HO131
                              clear Q_HI125_e3
                              have HO138 := Aside0.mk (Q_HO138 hb7_)
                              clear Q_HO138
                              have HA_HO138 := Aside0.mk (Q_HA_HO138 hb7_)
                              clear Q_HA_HO138
                              clear Q_HI125_e9
                              have HO145 := Aside0.mk (Q_HO145 hb13_)
                              clear Q_HO145
                              have HA_HO145 := Aside0.mk (Q_HA_HO145 hb13_)
                              clear Q_HA_HO145
                              have HI125 := Aside0.mk (Q_HI125_e15 hb15_)
                              clear Q_HI125_e15
                              clear hall hb1_ hb3_ hb4_ hb5_ hb6_ hb7_ hb9_ hb10_ hb11_ hb12_ hb13_ hb15_ hb16_ hb17_ hb18_ hb19_
                              obtain ⟨co73, eo73⟩ := HA_HO131.out
                              clear HA_HO131
                              subst eo73
                              obtain ⟨co74, eo74⟩ := HA_HO138.out
                              clear HA_HO138
                              subst eo74
                              obtain ⟨co75, eo75⟩ := HA_HO145.out
                              clear HA_HO145
                              subst eo75
                              try go_wp2_with (first | (go_at_call 46; (with_reducible refine (spec_l01Src_chance.calls g125 t122 t147 t148 4 false t151 t152 w _ ?side1 ?side2 A38.out).mono ?_); (case side1 => repeat (first | (with_reducible first | exact HI125.out | apply IsS102.alloc | apply IsS102.drewN | apply IsS102.drew | apply IsS102.set_1 | apply IsS102.set_2) | exact HI125.out)); (case side2 => repeat (first | (with_reducible first | exact HB.out | apply below_alloc | apply pw_below_drewN | apply below_drew1 | refine below_set ?_ (IsS102.ge HI125.out)) | exact HB.out)); rintro e w76 ⟨rfl, hi, hb, hk⟩; have n0_ := Aside0.mk (Kd.R_mono (Kd.R_keep (IsS102.apart (show IsS102 w _ g125 t122 t147 t148 from by repeat (first | (with_reducible first | exact HI125.out | apply IsS102.alloc | apply IsS102.drewN | apply IsS102.drew | apply IsS102.set_1 | apply IsS102.set_2) | exact HI125.out)) (by (with_reducible repeat (first | apply Kd.R_alloc | apply Kd.R_drewN | apply Kd.R_drew)); exact HO131.out) (by decide)) hk (fun _ h => h.2)) (fun _ h => h.1)); have n1_ := Aside0.mk (Kd.R_mono (Kd.R_keep (IsS102.apart (show IsS102 w _ g125 t122 t147 t148 from by repeat (first | (with_reducible first | exact HI125.out | apply IsS102.alloc | apply IsS102.drewN | apply IsS102.drew | apply IsS102.set_1 | apply IsS102.set_2) | exact HI125.out)) (by (with_reducible repeat (first | apply Kd.R_alloc | apply Kd.R_drewN | apply Kd.R_drew)); exact HO138.out) (by decide)) hk (fun _ h => h.2)) (fun _ h => h.1)); have n2_ := Aside0.mk (Kd.R_mono (Kd.R_keep (IsS102.apart (show IsS102 w _ g125 t122 t147 t148 from by repeat (first | (with_reducible first | exact HI125.out | apply IsS102.alloc | apply IsS102.drewN | apply IsS102.drew | apply IsS102.set_1 | apply IsS102.set_2) | exact HI125.out)) (by (with_reducible repeat (first | apply Kd.R_alloc | apply Kd.R_drewN | apply Kd.R_drew)); exact HO145.out) (by decide)) hk (fun _ h => h.2)) (fun _ h => h.1)); have n3_ := Aside0.mk (hb); have n4_ := Aside0.mk (hi); clear HO131; clear HO138; clear HO145; clear HB; clear HI125; have HO131 := n0_; have HO138 := n1_; have HO145 := n2_; have HB := n3_; have HI125 := n4_; clear n0_ n1_ n2_ n3_ n4_; (try clear hb); (try clear hb2); (try clear hk); (try clear hi)))
                              go_roundg k1
                              case measure => have := HK1.out; omega
                              case rel => exact ⟨(((x4_1 ++ (rdOf ByteArray.empty y129 t132)) ++ (rdOf ByteArray.empty y136 t139)) ++ (rdOf ByteArray.empty y143 t146)), (wrap64 (x5_1 - 1)), (t151), (t152), (by first | rfl | (simp; done) | (simp [*]; done)), (by first | rfl | (simp; done) | (simp [*]; done)), H', ⟨by have := HK1.out; omega⟩, ⟨by repeat (first | (with_reducible first | exact HI125.out | apply IsS102.alloc | apply IsS102.drewN | apply IsS102.drew | apply IsS102.set_1 | apply IsS102.set_2) | exact HI125.out)⟩, ⟨by repeat (first | (with_reducible first | exact HB.out | apply below_alloc | apply pw_below_drewN | apply below_drew1 | refine below_set ?_ (IsS102.ge HI125.out)) | exact HB.out)⟩⟩
                        · rw [if_neg c18] at H
                          exact absurd H (by simp)
                      · rw [if_neg c17] at H
                        exact absurd H (by simp)
                    · rw [if_neg c16] at H
                      exact absurd H (by simp)
                  · rw [if_neg c14] at H
                    exact absurd H (by simp)
                · rw [if_neg c13] at H
                  exact absurd H (by simp)
              · rw [if_neg c12] at H
                exact absurd H (by simp)
            · rw [if_neg c10] at H
              exact absurd H (by simp)
          · rw [if_neg c9] at H
            exact absurd H (by simp)
        · rw [if_neg c8] at H
          exact absurd H (by simp)
      · rw [if_neg c6] at H
        have c6b0 : decide (0 < x5_1) = false := decide_eq_false c6
        clear c6
        replace H := Option.bind_eq_some_iff.mp H
        obtain ⟨⟨t153, t154, t155⟩, A770, H⟩ := H
        replace H : (if t153 = true then (if x4_1.size + 5 ≤ 9223372036854775807 then ((spec_l01Src_next.f t122 t154 t155 2).bind fun bt156 => ((spec_l07Fill.f k1 32 (wrap64 ((wrap64 (1019 - (x4_1.size : Int))) + bt156.1))).bind fun t159 => (if (x4_1 ++ (⟨#[44, 32, 117, 61, 49]⟩ : ByteArray)).size + (strOfNums t159).size ≤ 9223372036854775807 then (some ((x4_1 ++ (⟨#[44, 32, 117, 61, 49]⟩ : ByteArray)) ++ (strOfNums t159))) else (none)))) else (none)) else (some x4_1)) = some r := H
        have A77 := Aside0.mk A770
        clear A770
        by_cases c78 : t153 = true
        · subst c78
          have H1 : (if x4_1.size + 5 ≤ 9223372036854775807 then ((spec_l01Src_next.f t122 t154 t155 2).bind fun bt156 => ((spec_l07Fill.f k1 32 (wrap64 ((wrap64 (1019 - (x4_1.size : Int))) + bt156.1))).bind fun t159 => (if (x4_1 ++ (⟨#[44, 32, 117, 61, 49]⟩ : ByteArray)).size + (strOfNums t159).size ≤ 9223372036854775807 then (some ((x4_1 ++ (⟨#[44, 32, 117, 61, 49]⟩ : ByteArray)) ++ (strOfNums t159))) else (none)))) else (none)) = some r := by rw [if_pos rfl] at H; exact H
          clear H
          have H := H1
          clear H1
          by_cases c79 : x4_1.size + 5 ≤ 9223372036854775807
          · rw [if_pos c79] at H
            have c79b0 := eq_true c79
            (try have c79b3 := (by have z_ := c79; simp only [ByteArray.size_append] at z_; exact eq_true z_))
            (try have c79b4 := (by have z_ := Nat.not_lt.2 c79; simp only [ByteArray.size_append] at z_; exact eq_false z_))
            have c79b1 : decide (x4_1.size + 5 ≤ 9223372036854775807) = true := decide_eq_true c79
            try have c79b2 : (9223372036854775807 < x4_1.size + 5) = False := eq_false (Nat.not_lt.2 c79)
            replace H := Option.bind_eq_some_iff.mp H
            obtain ⟨⟨t156, t157, t158⟩, A800, H⟩ := H
            replace H : ((spec_l07Fill.f k1 32 (wrap64 ((wrap64 (1019 - (x4_1.size : Int))) + t156))).bind fun t159 => (if (x4_1 ++ (⟨#[44, 32, 117, 61, 49]⟩ : ByteArray)).size + (strOfNums t159).size ≤ 9223372036854775807 then (some ((x4_1 ++ (⟨#[44, 32, 117, 61, 49]⟩ : ByteArray)) ++ (strOfNums t159))) else (none))) = some r := H
            have A80 := Aside0.mk A800
            clear A800
            replace H := Option.bind_eq_some_iff.mp H
            obtain ⟨t159, A810, H⟩ := H
            replace H : (if (x4_1 ++ (⟨#[44, 32, 117, 61, 49]⟩ : ByteArray)).size + (strOfNums t159).size ≤ 9223372036854775807 then (some ((x4_1 ++ (⟨#[44, 32, 117, 61, 49]⟩ : ByteArray)) ++ (strOfNums t159))) else (none)) = some r := H
            have A81 := Aside0.mk A810
            clear A810
            by_cases c82 : (x4_1 ++ (⟨#[44, 32, 117, 61, 49]⟩ : ByteArray)).size + (strOfNums t159).size ≤ 9223372036854775807
            · rw [if_pos c82] at H
              have c82b0 := eq_true c82
              (try have c82b3 := (by have z_ := c82; simp only [ByteArray.size_append] at z_; exact eq_true z_))
              (try have c82b4 := (by have z_ := Nat.not_lt.2 c82; simp only [ByteArray.size_append] at z_; exact eq_false z_))
              have c82b1 : decide ((x4_1 ++ (⟨#[44, 32, 117, 61, 49]⟩ : ByteArray)).size + (strOfNums t159).size ≤ 9223372036854775807) = true := decide_eq_true c82
              try have c82b2 : (9223372036854775807 < (x4_1 ++ (⟨#[44, 32, 117, 61, 49]⟩ : ByteArray)).size + (strOfNums t159).size) = False := eq_false (Nat.not_lt.2 c82)
              obtain rfl := Option.some.inj H
              go_wp2_with (first | ((with_reducible refine gate_callee (f := 46) rfl ?_); refine goesL_ (some 42) rfl rfl Tryd.func46 (by kernel_rfl) rfl #[.pointer (some ⟨g125, 0, none⟩), .int .i64 40] rfl (by (try simp only [List.map_toArray, List.map_cons, List.map_nil]); first | done | rfl | (simp only [List.length_drop, List.length_take]; rfl)) ?_; (with_reducible refine (spec_l01Src_chance.calls g125 t122 x126001_1 x126002_1 40 true t154 t155 w _ ?side1 ?side2 A77.out).mono ?_); (case side1 => repeat (first | (with_reducible first | exact HI125.out | apply IsS102.alloc | apply IsS102.drewN | apply IsS102.drew | apply IsS102.set_1 | apply IsS102.set_2) | exact HI125.out)); (case side2 => repeat (first | (with_reducible first | exact HB.out | apply below_alloc | apply pw_below_drewN | apply below_drew1 | refine below_set ?_ (IsS102.ge HI125.out)) | exact HB.out)); rintro e w83 ⟨rfl, hi, hb, hk⟩; refine ⟨_, rfl, ?_⟩; have n0_ := Aside0.mk (hb); have n1_ := Aside0.mk (hi); clear HB; clear HI125; have HB := n0_; have HI125 := n1_; clear n0_ n1_; (try clear hb); (try clear hb2); (try clear hk); (try clear hi)) | ((with_reducible refine gate_callee (f := 45) rfl ?_); refine goesL_ (some 49) rfl rfl Tryd.func45 (by kernel_rfl) rfl #[.pointer (some ⟨g125, 0, none⟩), .int .i64 2] rfl (by (try simp only [List.map_toArray, List.map_cons, List.map_nil]); first | done | rfl | (simp only [List.length_drop, List.length_take]; rfl)) ?_; (with_reducible refine (spec_l01Src_next.calls g125 t122 t154 t155 2 t156 t157 t158 w _ ?side1 ?side2 A80.out).mono ?_); (case side1 => repeat (first | (with_reducible first | exact HI125.out | apply IsS102.alloc | apply IsS102.drewN | apply IsS102.drew | apply IsS102.set_1 | apply IsS102.set_2) | exact HI125.out)); (case side2 => repeat (first | (with_reducible first | exact HB.out | apply below_alloc | apply pw_below_drewN | apply below_drew1 | refine below_set ?_ (IsS102.ge HI125.out)) | exact HB.out)); rintro e w84 ⟨rfl, hi, hb, hk⟩; refine ⟨_, rfl, ?_⟩; have n0_ := Aside0.mk (hb); have n1_ := Aside0.mk (hi); clear HB; clear HI125; have HB := n0_; have HI125 := n1_; clear n0_ n1_; (try clear hb); (try clear hb2); (try clear hk); (try clear hi)) | ((with_reducible refine gate_callee (f := 47) rfl ?_); refine goesL_ (some 51) rfl rfl Tryd.func47 (by kernel_rfl) rfl #[.int .u8 32, .int .i64 (wrap64 (1019 - (x4_1.size : Int) + t156))] rfl (by (try simp only [List.map_toArray, List.map_cons, List.map_nil]); first | done | rfl | (simp only [List.length_drop, List.length_take]; rfl)) ?_; rw [wrapIn (1019 - (x4_1.size : Int)) t156]; (with_reducible refine (spec_l07Fill.calls k1 32 (wrap64 ((wrap64 (1019 - (x4_1.size : Int))) + t156)) t159 _ A81.out).mono ?_); rintro e w85 ⟨v160, rfl, ho0, hb⟩; refine ⟨_, rfl, ?_⟩; have n0_ := Aside0.mk (Kd.R_lower ho0 (below_size (by repeat (first | (with_reducible first | exact HB.out | apply below_alloc | apply pw_below_drewN | apply below_drew1 | refine below_set ?_ (IsS102.ge HI125.out)) | exact HB.out)))); have n1_ := Aside0.mk (IsS102.below (by repeat (first | (with_reducible first | exact HI125.out | apply IsS102.alloc | apply IsS102.drewN | apply IsS102.drew | apply IsS102.set_1 | apply IsS102.set_2) | exact HI125.out)) hb); have n2_ := Aside0.mk (below_step (by repeat (first | (with_reducible first | exact HB.out | apply below_alloc | apply pw_below_drewN | apply below_drew1 | refine below_set ?_ (IsS102.ge HI125.out)) | exact HB.out)) hb); clear HI125; clear HB; have HO161 := n0_; have HI125 := n1_; have HB := n2_; clear n0_ n1_ n2_; (try clear hb); (try clear hb2); (try clear hk); (try clear hi); (try clear ho0); have hcv86 := own_string (P := Tryd.prog) Tryd.underlying27 Tryd.underlying5 Tryd.underlying9 (Kd.own_of_R HO161.out)))
              go_ret
              exact ⟨by first | rfl | (simp [errW_none, errW_some] <;> rfl) | (simp [*, errW_none, errW_some] <;> rfl), by repeat (first | (with_reducible first | exact HB.out | apply below_alloc | apply pw_below_drewN | apply below_drew1 | refine below_set ?_ (IsS102.ge HI125.out)) | exact HB.out)⟩
            · rw [if_neg c82] at H
              exact absurd H (by simp)
          · rw [if_neg c79] at H
            exact absurd H (by simp)
        · replace c78 := Bool.eq_false_iff.mpr c78
          subst c78
          have H1 : (some x4_1) = some r := by rw [if_neg (show ¬ (false = true) by decide)] at H; exact H
          clear H
          have H := H1
          clear H1
          obtain rfl := Option.some.inj H
          go_wp2_with (first | ((with_reducible refine gate_callee (f := 46) rfl ?_); refine goesL_ (some 42) rfl rfl Tryd.func46 (by kernel_rfl) rfl #[.pointer (some ⟨g125, 0, none⟩), .int .i64 40] rfl (by (try simp only [List.map_toArray, List.map_cons, List.map_nil]); first | done | rfl | (simp only [List.length_drop, List.length_take]; rfl)) ?_; (with_reducible refine (spec_l01Src_chance.calls g125 t122 x126001_1 x126002_1 40 false t154 t155 w _ ?side1 ?side2 A77.out).mono ?_); (case side1 => repeat (first | (with_reducible first | exact HI125.out | apply IsS102.alloc | apply IsS102.drewN | apply IsS102.drew | apply IsS102.set_1 | apply IsS102.set_2) | exact HI125.out)); (case side2 => repeat (first | (with_reducible first | exact HB.out | apply below_alloc | apply pw_below_drewN | apply below_drew1 | refine below_set ?_ (IsS102.ge HI125.out)) | exact HB.out)); rintro e w87 ⟨rfl, hi, hb, hk⟩; refine ⟨_, rfl, ?_⟩; have n0_ := Aside0.mk (hb); have n1_ := Aside0.mk (hi); clear HB; clear HI125; have HB := n0_; have HI125 := n1_; clear n0_ n1_; (try clear hb); (try clear hb2); (try clear hk); (try clear hi)))
          go_ret
          exact ⟨by first | rfl | (simp [errW_none, errW_some] <;> rfl) | (simp [*, errW_none, errW_some] <;> rfl), by repeat (first | (with_reducible first | exact HB.out | apply below_alloc | apply pw_below_drewN | apply below_drew1 | refine below_set ?_ (IsS102.ge HI125.out)) | exact HB.out)⟩

end Go.Proofs.YtkcimmlaoipdkaaDoor.PFnPriority
