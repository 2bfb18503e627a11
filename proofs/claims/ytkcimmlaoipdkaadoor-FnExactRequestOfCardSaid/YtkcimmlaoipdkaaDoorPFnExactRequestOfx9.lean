-- Written by a program of this repo (xprint.py) out of the translation; Lean checks it.
import Derived.Test.YtkcimmlaoipdkaaDoorPFnExactRequestOfx0
import Derived.Test.YtkcimmlaoipdkaaDoorPFnExactRequestOfx7
import Derived.Test.YtkcimmlaoipdkaaDoorPFnExactRequestOfx8
namespace Go.Proofs.YtkcimmlaoipdkaaDoor.PFnExactRequestOf
open Go.RowKit Go.Proofs.YtkcimmlaoipdkaaDoorW.PrintWords Go.Proofs.YtkcimmlaoipdkaaDoorW.PrintLast Go.Proofs.YtkcimmlaoipdkaaDoorW.PrintMore
attribute [local go_sem] max2_int min2_int max_two min_two max_three min_three max_four min_four   -- for this text's walks alone
set_option linter.unusedVariables false
set_option linter.unusedSimpArgs false

/-! ### impl_RequestOf: function 30 -/
/-! the heads and the rest of a list of fields -/
open Go.Proofs.YtkcimmlaoipdkaaDoor.MapF in
noncomputable def psK : KeyT Tryd.prog 9 ByteArray := keyString Tryd.underlying9
open Go.Proofs.YtkcimmlaoipdkaaDoor.MapF in
noncomputable def psE : ElT Tryd.prog 9 ByteArray := elString Tryd.underlying9 (fun w => by kernel_rfl)
def lookF (hs : List (ByteArray × ByteArray)) (y : ByteArray) : Option ByteArray := (hs.find? (fun p => decide (p.1 = y))).map (·.2)
theorem lookF_snoc {hs : List (ByteArray × ByteArray)} {y u : ByteArray} (h : lookF hs y = none) : Go.Proofs.YtkcimmlaoipdkaaDoor.MapF.upd (lookF hs) y (some u) = lookF (hs ++ [(y, u)]) := by
  funext z
  by_cases e : z = y
  · subst e
    rw [Go.Proofs.YtkcimmlaoipdkaaDoor.MapF.upd_same]
    unfold lookF at h ⊢
    rw [List.find?_append]
    rw [Option.map_eq_none_iff] at h
    rw [h]
    simp
  · rw [Go.Proofs.YtkcimmlaoipdkaaDoor.MapF.upd_other _ _ e]
    unfold lookF
    rw [List.find?_append]
    cases hs.find? (fun p => decide (p.1 = z)) with
    | none => simp [Ne.symm e]
    | some p => simp
/-- Field by field: those whose name begins with a colon, ahead of the others; none: one stands twice, or too late. -/
def psGo : List (S78) → List (ByteArray × ByteArray) → List (S78) → Option (Option (List (ByteArray × ByteArray) × List (S78)))
  | [], hs, rs => some (some (hs, rs))
  | x :: l, hs, rs => if x.f0.size ≤ maxLen ∧ x.f1.size ≤ maxLen then ((strings_HasPrefix.f x.f0 (⟨#[58]⟩ : ByteArray)).bind fun b =>
      if b = false then psGo l hs (rs ++ [x]) else if (lookF hs x.f0).isSome = true then some none else if rs.length > 0 then some none else psGo l (hs ++ [(x.f0, x.f1)]) rs) else none
section
variable {α β γ : Type} {d : Kd α} {e k el : Nat} {K : Go.Proofs.YtkcimmlaoipdkaaDoor.MapF.KeyT Tryd.prog k β} {E : Go.Proofs.YtkcimmlaoipdkaaDoor.MapF.ElT Tryd.prog el γ} {w w' : World} {base b n c : Nat} {f : β → Option γ} {ok : Nat → Prop} {v : Value} {xs : List α}
theorem R_notMap (hR : d.R e w base ok v xs) (hM : Go.Proofs.YtkcimmlaoipdkaaDoor.MapF.MapF K E w b n f c) : d.R e w base (fun k => ok k ∧ k ≠ b) v xs :=
  Kd.R_mono (Kd.R_bound hR) (fun k hk => ⟨hk.1, by
    rintro rfl
    obtain ⟨D, ⟨es, clock, h0, _⟩, _⟩ := hM
    obtain ⟨_, _, _, q, _, cells, hc⟩ := hk
    rw [h0] at hc
    cases hc⟩)
theorem R_ofMap (hR : d.R e w base ok v xs) (hM : Go.Proofs.YtkcimmlaoipdkaaDoor.MapF.MapF K E w b n f c) (hg : w.grownBy w' (some b)) : d.R e w' base ok v xs :=
  Kd.R_mono (Kd.R_grown (R_notMap hR hM) hg (fun k hk he => hk.2 (by injection he))) (fun _ hk => hk.1)
theorem map_ofR (hR : d.R e w base ok v xs) (hM : Go.Proofs.YtkcimmlaoipdkaaDoor.MapF.MapF K E w b n f c) : some b ≠ v.ownBlock := fun he => ((R_notMap hR hM).1 b he.symm).2 rfl
end
def psPost (w w' : World) (e : Ending) : Option (List (ByteArray × ByteArray) × List (S78)) → Prop
  | none => e = .returned (.tuple #[.map none, .slice none 0 0, .bool false])
  | some (hs, rs) => ∃ v, e = .returned (.tuple #[.map (some w.heap.size), v, .bool true]) ∧ Go.Proofs.YtkcimmlaoipdkaaDoor.MapF.MapF psK psE w' w.heap.size 64 (lookF hs) hs.length ∧ Kd.R k78 78 w' w.heap.size (fun _ => True) v rs
set_option maxHeartbeats 2000000 in
set_option maxRecDepth 100000 in
theorem impl_pseudo.calls (A : Option Addr) (c : Nat) (l : List (S78)) (R : Option (List (ByteArray × ByteArray) × List (S78))) (w : World) (hl : l.length ≤ 64) (hr : Kd.C k78 w A l.length l) (h : psGo l [] [] = some R) :
    Calls Tryd.prog 57 #[.slice A l.length c] w fun e w' => psPost w w' e R ∧ Below w.heap.size w w' := by
  have hmm := @run_makeMap Tryd.prog
  have hu78 := Tryd.underlying78
  have HR := Aside0.mk hr
  have H' := Aside0.mk h
  have HM : Aside0 (Go.Proofs.YtkcimmlaoipdkaaDoor.MapF.MapF psK psE (w.alloc (.map #[] 0)) w.heap.size 0 (lookF []) 0) := ⟨Go.Proofs.YtkcimmlaoipdkaaDoor.MapF.MapF.made w⟩
  have HB : Aside0 (Below w.heap.size w (w.alloc (.map #[] 0))) := ⟨below_alloc (Below.refl _ _) _⟩
  clear hr h
  go_enter Tryd.func57, Tryd.ntmps57
  go_wp2_with (first
    | ((with_reducible refine gate_dst (N := 12) rfl ?_); refine Kd.R_lit k78 _ 78 ?hg (N := 12) ?hd (xs := ([] : List (S78))) (inner := []) (ok := fun _ => True) (okp := fun _ => True) ?hr ?hp (fun _ hk => hk) trivial (Below.refl _ _) (Nat.le_refl _) (by simp) ?_; (case hd => rfl); (case hg => rfl); (case hr => first | (go_simp; done) | (go_simp; rfl)); (case hp => exact (Reps.none _ _)); intro v12 w3 ho hb hg_ hnew_; clear hg_ hnew_; have HO := Aside0.mk (Kd.R_lower ho (below_size HB.out)); have n0_ := Aside0.mk (HM.out.below hb); have n1_ := Aside0.mk (below_step HB.out hb); clear HM HB; have HM := n0_; have HB := n1_; clear ho hb n0_ n1_))
  go_loopg [6, 15] l.length (fun kq v6 v15 w' => ∃ (i : Nat) (hs : List (ByteArray × ByteArray)) (rs : List (S78)), v15 = .int .i64 (i : Int) ∧ Aside0 (i + kq = l.length) ∧ Aside0 (psGo (l.drop i) hs rs = some R) ∧ Aside0 (Go.Proofs.YtkcimmlaoipdkaaDoor.MapF.MapF psK psE w' w.heap.size i (lookF hs) hs.length) ∧ Aside0 (Kd.R k78 78 w' w.heap.size (fun _ => True) v6 rs) ∧ Aside0 (rs.length ≤ i) ∧ Aside0 (Below w.heap.size w w'))
  case atStart => exact ⟨0, [], [], rfl, ⟨by omega⟩, H', HM, HO, ⟨by simp⟩, HB⟩
  case round =>
    clear H' HM HO HB
    obtain ⟨i, hs, rs, rfl, HI, HA, HM, HO, HL, HB⟩ := hrel
    have H := HA.out
    clear HA
    by_cases hlt : i < l.length
    · rw [List.drop_eq_getElem_cons hlt, show l[i] = rd_T78 l (i : Int) from by simp [rd_T78, List.getD_eq_getElem?_getD, hlt], psGo] at H
      by_cases hg : (rd_T78 l (i : Int)).f0.size ≤ maxLen ∧ (rd_T78 l (i : Int)).f1.size ≤ maxLen
      · rw [if_pos hg] at H
        have HG := Aside0.mk hg
        clear hg
        replace H := Option.bind_eq_some_iff.mp H
        obtain ⟨b, A100, H⟩ := H
        have A10 := Aside0.mk A100
        clear A100
        have hi60 : (i : Int) < 64 := by omega
        have c3b0 : decide ((i : Int) < (l.length : Int)) = true := decide_eq_true (by omega)
        have c3b1 : decide (i < l.length) = true := decide_eq_true hlt
        obtain ⟨ad, ea, hx0, hx1⟩ := at_T78 HR.out (i : Int) (by omega) (by omega)
        cases ea
        simp only [Int.toNat_natCast] at hx0 hx1
        replace hx0 := (HB.out.cell (World.block_lt_of_cell? w _ hx0)).trans hx0
        replace hx1 := (HB.out.cell (World.block_lt_of_cell? w _ hx1)).trans hx1
        have c3b2 := eq_true hlt
        have HLT := Aside0.mk hlt
        clear hlt
        obtain ⟨Ao, co, eo⟩ := Kd.R_slice HO.out
        subst eo
        generalize hX : rd_T78 l (i : Int) = X at *
        have HX := Aside0.mk hX
        clear hX
        obtain ⟨x0, x1⟩ := X
        simp only at hx0 hx1 A10 HG H
        have HI6 := Aside0.mk hi60
        have HX2 : Aside0 (rs.length ≤ i) := HL
        cases b with
        | false =>
          have H2 : Aside0 (psGo (l.drop (i + 1)) hs (rs ++ [⟨x0, x1⟩]) = some R) := ⟨by simpa using H⟩
          clear H
          · go_wp2_with (first
                | ((with_reducible refine gate_dst (N := 8) rfl ?_); refine box_event ?hg (N := 8) ?hd (cs := #[.string (⟨#[]⟩ : ByteArray), .string (⟨#[]⟩ : ByteArray)]) (t := 78) ?hr ?_; (case hd => rfl); (case hg => rfl); (case hr => first | (go_simp; done) | (go_simp; rfl)); intro gb hg w3 hbox hb; have hne := (show w.heap.size ≠ gb from by rw [hg]; exact Nat.ne_of_lt HM.out.lt); have n0_ := Aside0.mk (HM.out.below hb); have n1_ := Aside0.mk (below_step HB.out hb); have n2_ := Aside0.mk (Kd.R_below (Kd.R_elderB HO.out gb (by rw [hg]; exact Nat.le_refl _)) hb); have n3_ := Aside0.mk hbox; have n4_ := Aside0.mk (show w.heap.size ≤ gb from by rw [hg]; exact below_size HB.out); clear HM HB HO; have HM := n0_; have HB := n1_; have HO := n2_; have BK := n3_; have GE := n4_; have HNE := Aside0.mk hne; clear hb hbox hg hne n0_ n1_ n2_ n3_ n4_; have hcz0 : w3.cell? ⟨gb, 0, none⟩ = some (.string (⟨#[]⟩ : ByteArray)) := (blk_cell BK.out 0).trans rfl; have hcz1 : w3.cell? ⟨gb, 1, none⟩ = some (.string (⟨#[]⟩ : ByteArray)) := (blk_cell BK.out 1).trans rfl; have hfz0 := blk_frozen BK.out 0; have hfz1 := blk_frozen BK.out 1)
                | (go_at_call 81; (with_reducible refine (strings_HasPrefix.calls x0 (⟨#[58]⟩ : ByteArray) false _ A10.out).mono ?_); rintro e w' ⟨rfl, ⟨nd, rfl⟩⟩; obtain ⟨W4, hW4⟩ : ∃ W4 : World, W4 = ((w3.setCell ⟨gb, 0, none⟩ (.string x0)).setCell ⟨gb, 1, none⟩ (.string x1)).drewN nd := ⟨_, rfl⟩; rw [← hW4]; have n0_ : Aside0 (Go.Proofs.YtkcimmlaoipdkaaDoor.MapF.MapF psK psE W4 w.heap.size i (lookF hs) hs.length) := ⟨by rw [hW4]; exact ((HM.out.setCell HNE.out _).setCell HNE.out _).drewN _⟩; have n1_ : Aside0 (Below w.heap.size w W4) := ⟨by rw [hW4]; exact pw_below_drewN (below_set (below_set HB.out GE.out) GE.out) _⟩; have n2_ : Aside0 (Kd.R k78 78 W4 w.heap.size (fun k => True ∧ k ≠ gb) (.slice Ao rs.length co) rs) := ⟨by rw [hW4]; exact Kd.R_drewN (Kd.R_far (Kd.R_far HO.out (fun _ hk => hk.2) _) (fun _ hk => hk.2) _) _⟩; have n3_ : Aside0 (W4.heap[gb]? = some (.cells #[.string x0, .string x1] 78 (0, 0))) := ⟨by rw [hW4]; exact blk_drewN (blk_put (cs := #[.string x0, .string (⟨#[]⟩ : ByteArray)]) (blk_put BK.out 0 _ rfl) 1 _ rfl) _⟩; clear hcz0 hcz1 hfz0 hfz1 HM HB HO BK hW4; have HM := n0_; have HB := n1_; have HO := n2_; have BK := n3_; clear n0_ n1_ n2_ n3_; have hd0 : W4.cell? ⟨gb, 0, none⟩ = some (.string x0) := (blk_cell BK.out 0).trans rfl; have hd1 : W4.cell? ⟨gb, 1, none⟩ = some (.string x1) := (blk_cell BK.out 1).trans rfl)
                | ((with_reducible refine gate_builtin (b := .append) (xs := #[.tmp 23, .tmp 25]) rfl ?_); at_builtin; refine Kd.R_append k78 (w0 := w) w.heap.size rfl (.tmp 23) (.tmp 25) 34 78 (.agg #[(.string ⟨#[]⟩), (.string ⟨#[]⟩)]) 32 rfl Tryd.underlying34 info78 rfl (by decide) (by omega) _ rs (⟨x0, x1⟩ : S78) [.string x0, .string x1] (fun k => True ∧ k ≠ gb) (fun _ => False) rfl rfl ?aP (fun _ hk => hk.elim) ?aF ?aO ?aB ?aS ?aL ?_; (case aP => exact k78_mkM _ _ _ (⟨x0, x1⟩ : S78)); (case aB => exact HB.out); (case aF => exact (fun k hk => ⟨trivial, by have := blk_lt BK.out; omega⟩)); (case aO => exact HO.out); (case aS => exact below_size HB.out); (case aL => have := HL.out; omega); intro v1 w5 ho hb hg hat; have n0_ := Aside0.mk (HM.out.kept hg (map_ofR HO.out HM.out)); have n1_ := Aside0.mk hb; have n2_ := Aside0.mk ho; clear HM HB HO; have HM := n0_; have HB := n1_; have HO := n2_; clear n0_ n1_ n2_ ho hb hg hat hd0 hd1))
            go_roundg (l.length - (i + 1))
            case measure => have := HI.out; have := HLT.out; omega
            case rel => exact ⟨i + 1, hs, (rs ++ [⟨x0, x1⟩]), by first | rfl | go_num, ⟨by have := HLT.out; omega⟩, H2, ⟨HM.out.mono (Nat.le_succ _)⟩, ⟨Kd.R_mono HO.out (fun _ _ => trivial)⟩, ⟨by have := HX2.out; simp; omega⟩, HB⟩
        | true =>
          rw [if_neg (by decide)] at H
          cases hlk : lookF hs x0 with
          | some u =>
            rw [hlk] at H
            simp only [Option.isSome_some, if_true] at H
            have H2 := Aside0.mk (Option.some.inj H)
            have HLK := Aside0.mk hlk
            clear H hlk
            · go_wp2_with (first
                | ((with_reducible refine gate_dst (N := 8) rfl ?_); refine box_event ?hg (N := 8) ?hd (cs := #[.string (⟨#[]⟩ : ByteArray), .string (⟨#[]⟩ : ByteArray)]) (t := 78) ?hr ?_; (case hd => rfl); (case hg => rfl); (case hr => first | (go_simp; done) | (go_simp; rfl)); intro gb hg w3 hbox hb; have hne := (show w.heap.size ≠ gb from by rw [hg]; exact Nat.ne_of_lt HM.out.lt); have n0_ := Aside0.mk (HM.out.below hb); have n1_ := Aside0.mk (below_step HB.out hb); have n2_ := Aside0.mk (Kd.R_below (Kd.R_elderB HO.out gb (by rw [hg]; exact Nat.le_refl _)) hb); have n3_ := Aside0.mk hbox; have n4_ := Aside0.mk (show w.heap.size ≤ gb from by rw [hg]; exact below_size HB.out); clear HM HB HO; have HM := n0_; have HB := n1_; have HO := n2_; have BK := n3_; have GE := n4_; have HNE := Aside0.mk hne; clear hb hbox hg hne n0_ n1_ n2_ n3_ n4_; have hcz0 : w3.cell? ⟨gb, 0, none⟩ = some (.string (⟨#[]⟩ : ByteArray)) := (blk_cell BK.out 0).trans rfl; have hcz1 : w3.cell? ⟨gb, 1, none⟩ = some (.string (⟨#[]⟩ : ByteArray)) := (blk_cell BK.out 1).trans rfl; have hfz0 := blk_frozen BK.out 0; have hfz1 := blk_frozen BK.out 1)
                | (go_at_call 81; (with_reducible refine (strings_HasPrefix.calls x0 (⟨#[58]⟩ : ByteArray) true _ A10.out).mono ?_); rintro e w' ⟨rfl, ⟨nd, rfl⟩⟩; obtain ⟨W4, hW4⟩ : ∃ W4 : World, W4 = ((w3.setCell ⟨gb, 0, none⟩ (.string x0)).setCell ⟨gb, 1, none⟩ (.string x1)).drewN nd := ⟨_, rfl⟩; rw [← hW4]; have n0_ : Aside0 (Go.Proofs.YtkcimmlaoipdkaaDoor.MapF.MapF psK psE W4 w.heap.size i (lookF hs) hs.length) := ⟨by rw [hW4]; exact ((HM.out.setCell HNE.out _).setCell HNE.out _).drewN _⟩; have n1_ : Aside0 (Below w.heap.size w W4) := ⟨by rw [hW4]; exact pw_below_drewN (below_set (below_set HB.out GE.out) GE.out) _⟩; have n2_ : Aside0 (Kd.R k78 78 W4 w.heap.size (fun k => True ∧ k ≠ gb) (.slice Ao rs.length co) rs) := ⟨by rw [hW4]; exact Kd.R_drewN (Kd.R_far (Kd.R_far HO.out (fun _ hk => hk.2) _) (fun _ hk => hk.2) _) _⟩; have n3_ : Aside0 (W4.heap[gb]? = some (.cells #[.string x0, .string x1] 78 (0, 0))) := ⟨by rw [hW4]; exact blk_drewN (blk_put (cs := #[.string x0, .string (⟨#[]⟩ : ByteArray)]) (blk_put BK.out 0 _ rfl) 1 _ rfl) _⟩; clear hcz0 hcz1 hfz0 hfz1 HM HB HO BK hW4; have HM := n0_; have HB := n1_; have HO := n2_; have BK := n3_; clear n0_ n1_ n2_ n3_; have hd0 : W4.cell? ⟨gb, 0, none⟩ = some (.string x0) := (blk_cell BK.out 0).trans rfl; have hd1 : W4.cell? ⟨gb, 1, none⟩ = some (.string x1) := (blk_cell BK.out 1).trans rfl)
                | (at_lookup; refine Go.Proofs.YtkcimmlaoipdkaaDoor.MapF.wp_look_ok W4 rfl (.tmp 28) (.tmp 30) 88 rfl Tryd.underlying88 HM.out rfl x0 rfl HG.out.1 ?_; rw [HLK.out]; change wpList _ _ _ _ (Act.put _ _ (.tuple #[.string u, .bool true])) _))
              go_ret3
              refine ⟨?_, HB.out⟩
              rw [← H2.out]
              rfl
          | none =>
            rw [hlk, if_neg (by decide)] at H
            have HLK := Aside0.mk hlk
            clear hlk
            by_cases hrs : rs.length > 0
            · rw [if_pos hrs] at H
              have H2 := Aside0.mk (Option.some.inj H)
              have c4b0 : decide (0 < (rs.length : Int)) = true := decide_eq_true (by omega)
              have c4b1 : decide (0 < rs.length) = true := decide_eq_true hrs
              clear H hrs
              go_wp2_with (first
                | ((with_reducible refine gate_dst (N := 8) rfl ?_); refine box_event ?hg (N := 8) ?hd (cs := #[.string (⟨#[]⟩ : ByteArray), .string (⟨#[]⟩ : ByteArray)]) (t := 78) ?hr ?_; (case hd => rfl); (case hg => rfl); (case hr => first | (go_simp; done) | (go_simp; rfl)); intro gb hg w3 hbox hb; have hne := (show w.heap.size ≠ gb from by rw [hg]; exact Nat.ne_of_lt HM.out.lt); have n0_ := Aside0.mk (HM.out.below hb); have n1_ := Aside0.mk (below_step HB.out hb); have n2_ := Aside0.mk (Kd.R_below (Kd.R_elderB HO.out gb (by rw [hg]; exact Nat.le_refl _)) hb); have n3_ := Aside0.mk hbox; have n4_ := Aside0.mk (show w.heap.size ≤ gb from by rw [hg]; exact below_size HB.out); clear HM HB HO; have HM := n0_; have HB := n1_; have HO := n2_; have BK := n3_; have GE := n4_; have HNE := Aside0.mk hne; clear hb hbox hg hne n0_ n1_ n2_ n3_ n4_; have hcz0 : w3.cell? ⟨gb, 0, none⟩ = some (.string (⟨#[]⟩ : ByteArray)) := (blk_cell BK.out 0).trans rfl; have hcz1 : w3.cell? ⟨gb, 1, none⟩ = some (.string (⟨#[]⟩ : ByteArray)) := (blk_cell BK.out 1).trans rfl; have hfz0 := blk_frozen BK.out 0; have hfz1 := blk_frozen BK.out 1)
                | (go_at_call 81; (with_reducible refine (strings_HasPrefix.calls x0 (⟨#[58]⟩ : ByteArray) true _ A10.out).mono ?_); rintro e w' ⟨rfl, ⟨nd, rfl⟩⟩; obtain ⟨W4, hW4⟩ : ∃ W4 : World, W4 = ((w3.setCell ⟨gb, 0, none⟩ (.string x0)).setCell ⟨gb, 1, none⟩ (.string x1)).drewN nd := ⟨_, rfl⟩; rw [← hW4]; have n0_ : Aside0 (Go.Proofs.YtkcimmlaoipdkaaDoor.MapF.MapF psK psE W4 w.heap.size i (lookF hs) hs.length) := ⟨by rw [hW4]; exact ((HM.out.setCell HNE.out _).setCell HNE.out _).drewN _⟩; have n1_ : Aside0 (Below w.heap.size w W4) := ⟨by rw [hW4]; exact pw_below_drewN (below_set (below_set HB.out GE.out) GE.out) _⟩; have n2_ : Aside0 (Kd.R k78 78 W4 w.heap.size (fun k => True ∧ k ≠ gb) (.slice Ao rs.length co) rs) := ⟨by rw [hW4]; exact Kd.R_drewN (Kd.R_far (Kd.R_far HO.out (fun _ hk => hk.2) _) (fun _ hk => hk.2) _) _⟩; have n3_ : Aside0 (W4.heap[gb]? = some (.cells #[.string x0, .string x1] 78 (0, 0))) := ⟨by rw [hW4]; exact blk_drewN (blk_put (cs := #[.string x0, .string (⟨#[]⟩ : ByteArray)]) (blk_put BK.out 0 _ rfl) 1 _ rfl) _⟩; clear hcz0 hcz1 hfz0 hfz1 HM HB HO BK hW4; have HM := n0_; have HB := n1_; have HO := n2_; have BK := n3_; clear n0_ n1_ n2_ n3_; have hd0 : W4.cell? ⟨gb, 0, none⟩ = some (.string x0) := (blk_cell BK.out 0).trans rfl; have hd1 : W4.cell? ⟨gb, 1, none⟩ = some (.string x1) := (blk_cell BK.out 1).trans rfl)
                | (at_lookup; refine Go.Proofs.YtkcimmlaoipdkaaDoor.MapF.wp_look_ok W4 rfl (.tmp 28) (.tmp 30) 88 rfl Tryd.underlying88 HM.out rfl x0 rfl HG.out.1 ?_; rw [HLK.out]; change wpList _ _ _ _ (Act.put _ _ (.tuple #[.string ⟨#[]⟩, .bool false])) _))
              go_ret3
              refine ⟨?_, HB.out⟩
              rw [← H2.out]
              rfl
            · rw [if_neg hrs] at H
              have H2 := Aside0.mk H
              have c4b0 : decide (0 < (rs.length : Int)) = false := decide_eq_false (by omega)
              have c4b1 : decide (0 < rs.length) = false := decide_eq_false hrs
              clear H hrs
              go_wp2_with (first
                | ((with_reducible refine gate_dst (N := 8) rfl ?_); refine box_event ?hg (N := 8) ?hd (cs := #[.string (⟨#[]⟩ : ByteArray), .string (⟨#[]⟩ : ByteArray)]) (t := 78) ?hr ?_; (case hd => rfl); (case hg => rfl); (case hr => first | (go_simp; done) | (go_simp; rfl)); intro gb hg w3 hbox hb; have hne := (show w.heap.size ≠ gb from by rw [hg]; exact Nat.ne_of_lt HM.out.lt); have n0_ := Aside0.mk (HM.out.below hb); have n1_ := Aside0.mk (below_step HB.out hb); have n2_ := Aside0.mk (Kd.R_below (Kd.R_elderB HO.out gb (by rw [hg]; exact Nat.le_refl _)) hb); have n3_ := Aside0.mk hbox; have n4_ := Aside0.mk (show w.heap.size ≤ gb from by rw [hg]; exact below_size HB.out); clear HM HB HO; have HM := n0_; have HB := n1_; have HO := n2_; have BK := n3_; have GE := n4_; have HNE := Aside0.mk hne; clear hb hbox hg hne n0_ n1_ n2_ n3_ n4_; have hcz0 : w3.cell? ⟨gb, 0, none⟩ = some (.string (⟨#[]⟩ : ByteArray)) := (blk_cell BK.out 0).trans rfl; have hcz1 : w3.cell? ⟨gb, 1, none⟩ = some (.string (⟨#[]⟩ : ByteArray)) := (blk_cell BK.out 1).trans rfl; have hfz0 := blk_frozen BK.out 0; have hfz1 := blk_frozen BK.out 1)
                | (go_at_call 81; (with_reducible refine (strings_HasPrefix.calls x0 (⟨#[58]⟩ : ByteArray) true _ A10.out).mono ?_); rintro e w' ⟨rfl, ⟨nd, rfl⟩⟩; obtain ⟨W4, hW4⟩ : ∃ W4 : World, W4 = ((w3.setCell ⟨gb, 0, none⟩ (.string x0)).setCell ⟨gb, 1, none⟩ (.string x1)).drewN nd := ⟨_, rfl⟩; rw [← hW4]; have n0_ : Aside0 (Go.Proofs.YtkcimmlaoipdkaaDoor.MapF.MapF psK psE W4 w.heap.size i (lookF hs) hs.length) := ⟨by rw [hW4]; exact ((HM.out.setCell HNE.out _).setCell HNE.out _).drewN _⟩; have n1_ : Aside0 (Below w.heap.size w W4) := ⟨by rw [hW4]; exact pw_below_drewN (below_set (below_set HB.out GE.out) GE.out) _⟩; have n2_ : Aside0 (Kd.R k78 78 W4 w.heap.size (fun k => True ∧ k ≠ gb) (.slice Ao rs.length co) rs) := ⟨by rw [hW4]; exact Kd.R_drewN (Kd.R_far (Kd.R_far HO.out (fun _ hk => hk.2) _) (fun _ hk => hk.2) _) _⟩; have n3_ : Aside0 (W4.heap[gb]? = some (.cells #[.string x0, .string x1] 78 (0, 0))) := ⟨by rw [hW4]; exact blk_drewN (blk_put (cs := #[.string x0, .string (⟨#[]⟩ : ByteArray)]) (blk_put BK.out 0 _ rfl) 1 _ rfl) _⟩; clear hcz0 hcz1 hfz0 hfz1 HM HB HO BK hW4; have HM := n0_; have HB := n1_; have HO := n2_; have BK := n3_; clear n0_ n1_ n2_ n3_; have hd0 : W4.cell? ⟨gb, 0, none⟩ = some (.string x0) := (blk_cell BK.out 0).trans rfl; have hd1 : W4.cell? ⟨gb, 1, none⟩ = some (.string x1) := (blk_cell BK.out 1).trans rfl)
                | (at_lookup; refine Go.Proofs.YtkcimmlaoipdkaaDoor.MapF.wp_look_ok W4 rfl (.tmp 28) (.tmp 30) 88 rfl Tryd.underlying88 HM.out rfl x0 rfl HG.out.1 ?_; rw [HLK.out]; change wpList _ _ _ _ (Act.put _ _ (.tuple #[.string ⟨#[]⟩, .bool false])) _)
                | (at_mapUpdate; refine Go.Proofs.YtkcimmlaoipdkaaDoor.MapF.wp_put W4 rfl (.tmp 40) (.tmp 42) (.tmp 44) 88 rfl Tryd.underlying88 HM.out (by have := HI6.out; unfold maxLen; omega) rfl x0 x1 rfl rfl HG.out.1 HG.out.2 ?_; intro w9 hM9 hg9; rw [HLK.out, lookF_snoc HLK.out] at hM9; have n0_ := Aside0.mk hM9; have n1_ := Aside0.mk (HB.out.grown hg9 (below_size HB.out) (fun j hj => by cases hj; exact Nat.le_refl _)); have n2_ := Aside0.mk (R_ofMap HO.out HM.out hg9); clear HM HB HO; have HM := n0_; have HB := n1_; have HO := n2_; clear n0_ n1_ n2_ hM9 hg9 hd0 hd1))
              go_roundg (l.length - (i + 1))
              case measure => have := HI.out; have := HLT.out; omega
              case rel => exact ⟨i + 1, (hs ++ [(x0, x1)]), rs, by first | rfl | go_num, ⟨by have := HLT.out; omega⟩, H2, ⟨by simpa using HM.out⟩, ⟨Kd.R_mono HO.out (fun _ _ => trivial)⟩, ⟨by have := HX2.out; omega⟩, HB⟩
      · rw [if_neg hg] at H
        exact absurd H (by simp)
    · have c3b0 : decide ((i : Int) < (l.length : Int)) = false := decide_eq_false (by omega)
      have c3b1 : decide (i < l.length) = false := decide_eq_false hlt
      rw [List.drop_of_length_le (by omega), psGo] at H
      have HI2 := Aside0.mk (show i ≤ 64 by have := HI.out; omega)
      have H2 := Aside0.mk (Option.some.inj H)
      clear H hlt
      go_wp2
      go_ret3
      refine ⟨?_, HB.out⟩
      rw [← H2.out]
      exact ⟨_, rfl, HM.out.mono HI2.out, HO.out⟩
theorem wp_seal {P : Program} {ops : Array Oper} {rest : List Oper} {a : Act} {Q : Exit → Act → World → Prop} {W : World} (F : World → Prop) (h : F W) (k : ∀ W', F W' → wpList P ops Q rest a W') : wpList P ops Q rest a W := k W h
theorem R_ofIter {α β γ : Type} {d : Kd α} {e k el : Nat} {K : Go.Proofs.YtkcimmlaoipdkaaDoor.MapF.KeyT Tryd.prog k β} {E : Go.Proofs.YtkcimmlaoipdkaaDoor.MapF.ElT Tryd.prog el γ} {w w' : World} {base b r n c : Nat} {f : β → Option γ} {left : β → Bool} {ok : Nat → Prop} {v : Value} {xs : List α} (hR : d.R e w base ok v xs) (hM : Go.Proofs.YtkcimmlaoipdkaaDoor.MapF.MapR K E w b r n f left c) (hg : w.grownBy w' (some r)) : d.R e w' base ok v xs :=
  Kd.R_mono (Kd.R_grown (Kd.R_mono (Kd.R_bound hR) (ok' := fun k => ok k ∧ k ≠ r) (fun k hk => ⟨hk.1, by
    rintro rfl
    obtain ⟨_, _, _, q, _, cells, hc⟩ := hk
    exact (hM.notCells hc).2 rfl⟩)) hg (fun k hk he => hk.2 (by injection he))) (fun _ hk => hk.1)
/-- May an entry of the heads stand in a request? -/
def reqFine (n v : ByteArray) : Bool := (n.toList == ([58, 109, 101, 116, 104, 111, 100] : List UInt8)) || ((n.toList == ([58, 115, 99, 104, 101, 109, 101] : List UInt8)) || ((n.toList == ([58, 112, 97, 116, 104] : List UInt8)) || ((n.toList == ([58, 97, 117, 116, 104, 111, 114, 105, 116, 121] : List UInt8)) && !(v.toList == ([] : List UInt8)))))
def getH (hs : List (ByteArray × ByteArray)) (y : ByteArray) : ByteArray := (lookF hs y).getD ⟨#[]⟩
def reqPick (hs : List (ByteArray × ByteArray)) (left : ByteArray → Bool) (y : ByteArray) : ByteArray := if left y = true then ⟨#[]⟩ else getH hs y
def allFine (hs : List (ByteArray × ByteArray)) : Bool := hs.all fun p => reqFine p.1 (getH hs p.1)
theorem bytes_of {x : ByteArray} {l : List UInt8} (h : (x.toList == l) = true) : x = ⟨l.toArray⟩ := by
  have h := beq_iff_eq.1 h
  rw [Go.Lib.toList_data] at h
  cases x
  congr 1
  exact Array.toList_inj.1 h
theorem pick_same {hs : List (ByteArray × ByteArray)} {left : ByteArray → Bool} {x y u : ByteArray} (e : x = y) (h : lookF hs x = some u) : reqPick hs (Go.Proofs.YtkcimmlaoipdkaaDoor.MapF.strike left x) y = u := by
  subst e
  unfold reqPick getH
  rw [Go.Proofs.YtkcimmlaoipdkaaDoor.MapF.strike_same, h]
  rfl
theorem pick_other {hs : List (ByteArray × ByteArray)} {left : ByteArray → Bool} {x y : ByteArray} (e : y ≠ x) : reqPick hs (Go.Proofs.YtkcimmlaoipdkaaDoor.MapF.strike left x) y = reqPick hs left y := by
  unfold reqPick
  rw [Go.Proofs.YtkcimmlaoipdkaaDoor.MapF.strike_other _ e]
theorem lookF_mem {hs : List (ByteArray × ByteArray)} {p : ByteArray × ByteArray} (h : p ∈ hs) : ∃ u, lookF hs p.1 = some u := by
  unfold lookF
  cases hq : hs.find? (fun q => decide (q.1 = p.1)) with
  | none =>
    have := List.find?_eq_none.1 hq p h
    simp at this
  | some q => exact ⟨_, rfl⟩
theorem lookF_back {hs : List (ByteArray × ByteArray)} {x u : ByteArray} (h : lookF hs x = some u) : ∃ p ∈ hs, p.1 = x := by
  unfold lookF at h
  cases hq : hs.find? (fun q => decide (q.1 = x)) with
  | none => rw [hq] at h; cases h
  | some q => exact ⟨q, List.mem_of_find?_eq_some hq, by simpa using List.find?_some hq⟩
theorem allFine_of {hs : List (ByteArray × ByteArray)} (h : ∀ x u, lookF hs x = some u → reqFine x u = true) : allFine hs = true := by
  unfold allFine
  rw [List.all_eq_true]
  intro p hp
  obtain ⟨u, hu⟩ := lookF_mem hp
  have := h _ _ hu
  simpa [getH, hu] using this
theorem allFine_not {hs : List (ByteArray × ByteArray)} {x u : ByteArray} (h : lookF hs x = some u) (hf : reqFine x u = false) : allFine hs = false := by
  obtain ⟨p, hp, e⟩ := lookF_back h
  cases ha : allFine hs with
  | false => rfl
  | true =>
    unfold allFine at ha
    have := List.all_eq_true.1 ha p hp
    rw [e] at this
    simp [getH, h, hf] at this
theorem reqCases (x u : ByteArray) : ((x.toList == ([58, 109, 101, 116, 104, 111, 100] : List UInt8)) = true ∧ reqFine x u = true) ∨ ((x.toList == ([58, 109, 101, 116, 104, 111, 100] : List UInt8)) = false ∧ (x.toList == ([58, 115, 99, 104, 101, 109, 101] : List UInt8)) = true ∧ reqFine x u = true) ∨ ((x.toList == ([58, 109, 101, 116, 104, 111, 100] : List UInt8)) = false ∧ (x.toList == ([58, 115, 99, 104, 101, 109, 101] : List UInt8)) = false ∧ (x.toList == ([58, 112, 97, 116, 104] : List UInt8)) = true ∧ reqFine x u = true) ∨
    ((x.toList == ([58, 109, 101, 116, 104, 111, 100] : List UInt8)) = false ∧ (x.toList == ([58, 115, 99, 104, 101, 109, 101] : List UInt8)) = false ∧ (x.toList == ([58, 112, 97, 116, 104] : List UInt8)) = false ∧ (x.toList == ([58, 97, 117, 116, 104, 111, 114, 105, 116, 121] : List UInt8)) = true ∧ (u.toList == ([] : List UInt8)) = false ∧ (u.toList != ([] : List UInt8)) = true ∧ u.toList.isEmpty = false ∧ (!u.toList.isEmpty) = true ∧ reqFine x u = true) ∨
    ((x.toList == ([58, 109, 101, 116, 104, 111, 100] : List UInt8)) = false ∧ (x.toList == ([58, 115, 99, 104, 101, 109, 101] : List UInt8)) = false ∧ (x.toList == ([58, 112, 97, 116, 104] : List UInt8)) = false ∧ (x.toList == ([58, 97, 117, 116, 104, 111, 114, 105, 116, 121] : List UInt8)) = true ∧ (u.toList == ([] : List UInt8)) = true ∧ (u.toList != ([] : List UInt8)) = false ∧ u.toList.isEmpty = true ∧ (!u.toList.isEmpty) = false ∧ reqFine x u = false) ∨
    ((x.toList == ([58, 109, 101, 116, 104, 111, 100] : List UInt8)) = false ∧ (x.toList == ([58, 115, 99, 104, 101, 109, 101] : List UInt8)) = false ∧ (x.toList == ([58, 112, 97, 116, 104] : List UInt8)) = false ∧ (x.toList == ([58, 97, 117, 116, 104, 111, 114, 105, 116, 121] : List UInt8)) = false ∧ reqFine x u = false) := by
  unfold reqFine
  cases h0 : x.toList == ([58, 109, 101, 116, 104, 111, 100] : List UInt8)
  · cases h1 : x.toList == ([58, 115, 99, 104, 101, 109, 101] : List UInt8)
    · cases h2 : x.toList == ([58, 112, 97, 116, 104] : List UInt8)
      · cases h3 : x.toList == ([58, 97, 117, 116, 104, 111, 114, 105, 116, 121] : List UInt8)
        · exact .inr (.inr (.inr (.inr (.inr ⟨rfl, rfl, rfl, rfl, rfl⟩))))
        · cases hu : u.toList with
          | nil => exact .inr (.inr (.inr (.inr (.inl ⟨rfl, rfl, rfl, rfl, rfl, rfl, rfl, rfl, rfl⟩))))
          | cons b l => exact .inr (.inr (.inr (.inl ⟨rfl, rfl, rfl, rfl, rfl, rfl, rfl, rfl, rfl⟩)))
      · exact .inr (.inr (.inl ⟨rfl, rfl, rfl, rfl⟩))
    · exact .inr (.inl ⟨rfl, rfl, rfl⟩)
  · exact .inl ⟨rfl, rfl⟩
abbrev ReqR := ByteArray × ByteArray × ByteArray × ByteArray × List (S78) × Int
def reqRest (k : Nat) (hs : List (ByteArray × ByteArray)) (rs : List (S78)) : Option ReqR :=
  if allFine hs = true then (impl_requestOK.f k (getH hs (⟨#[58, 109, 101, 116, 104, 111, 100]⟩ : ByteArray)) (getH hs (⟨#[58, 115, 99, 104, 101, 109, 101]⟩ : ByteArray)) (getH hs (⟨#[58, 97, 117, 116, 104, 111, 114, 105, 116, 121]⟩ : ByteArray)) (getH hs (⟨#[58, 112, 97, 116, 104]⟩ : ByteArray)) rs).bind fun q => if q = true then some ((getH hs (⟨#[58, 109, 101, 116, 104, 111, 100]⟩ : ByteArray)), (getH hs (⟨#[58, 115, 99, 104, 101, 109, 101]⟩ : ByteArray)), (getH hs (⟨#[58, 97, 117, 116, 104, 111, 114, 105, 116, 121]⟩ : ByteArray)), (getH hs (⟨#[58, 112, 97, 116, 104]⟩ : ByteArray)), rs, 0) else some (⟨#[]⟩, ⟨#[]⟩, ⟨#[]⟩, ⟨#[]⟩, [], 17) else some (⟨#[]⟩, ⟨#[]⟩, ⟨#[]⟩, ⟨#[]⟩, [], 17)
theorem reqRest_bad {k : Nat} {hs : List (ByteArray × ByteArray)} {rs : List (S78)} {r1 r2 r3 r4 : ByteArray} {r5 : List (S78)} {r6 : Int} {x u : ByteArray} (h : reqRest k hs rs = some (r1, r2, r3, r4, r5, r6)) (hf : lookF hs x = some u) (hn : reqFine x u = false) :
    r1 = ⟨#[]⟩ ∧ r2 = ⟨#[]⟩ ∧ r3 = ⟨#[]⟩ ∧ r4 = ⟨#[]⟩ ∧ r5 = [] ∧ r6 = 17 := by
  unfold reqRest at h
  rw [allFine_not hf hn, if_neg (by decide)] at h
  simp only [Option.some.injEq, Prod.mk.injEq] at h
  obtain ⟨rfl, rfl, rfl, rfl, rfl, rfl⟩ := h
  exact ⟨rfl, rfl, rfl, rfl, rfl, rfl⟩
theorem reqRest_good {k : Nat} {hs : List (ByteArray × ByteArray)} {rs : List (S78)} {r1 r2 r3 r4 : ByteArray} {r5 : List (S78)} {r6 : Int} (h : reqRest k hs rs = some (r1, r2, r3, r4, r5, r6)) (hf : ∀ x u, lookF hs x = some u → reqFine x u = true) :
    ∃ q, impl_requestOK.f k (getH hs (⟨#[58, 109, 101, 116, 104, 111, 100]⟩ : ByteArray)) (getH hs (⟨#[58, 115, 99, 104, 101, 109, 101]⟩ : ByteArray)) (getH hs (⟨#[58, 97, 117, 116, 104, 111, 114, 105, 116, 121]⟩ : ByteArray)) (getH hs (⟨#[58, 112, 97, 116, 104]⟩ : ByteArray)) rs = some q ∧ (if q = true then some ((getH hs (⟨#[58, 109, 101, 116, 104, 111, 100]⟩ : ByteArray)), (getH hs (⟨#[58, 115, 99, 104, 101, 109, 101]⟩ : ByteArray)), (getH hs (⟨#[58, 97, 117, 116, 104, 111, 114, 105, 116, 121]⟩ : ByteArray)), (getH hs (⟨#[58, 112, 97, 116, 104]⟩ : ByteArray)), rs, 0) else some (⟨#[]⟩, ⟨#[]⟩, ⟨#[]⟩, ⟨#[]⟩, [], 17)) = some (r1, r2, r3, r4, r5, r6) := by
  unfold reqRest at h
  rw [allFine_of hf, if_pos rfl] at h
  exact Option.bind_eq_some_iff.mp h
def impl_RequestOf.f (k : Nat) (l0 : List (S78)) : Option ReqR :=
  if l0.length > 64 then some (⟨#[]⟩, ⟨#[]⟩, ⟨#[]⟩, ⟨#[]⟩, [], 4) else (psGo l0 [] []).bind fun p => match p with
    | none => some (⟨#[]⟩, ⟨#[]⟩, ⟨#[]⟩, ⟨#[]⟩, [], 17)
    | some (hs, rs) => reqRest k hs rs
theorem impl_RequestOf.mono : ∀ a0 k, LeO (impl_RequestOf.f k a0) (impl_RequestOf.f (k + 1) a0) := by
  intro a0 k
  unfold impl_RequestOf.f
  refine LeO.ite (LeO.refl _) (LeO.bind (LeO.refl _) (fun p => ?_))
  cases p with
  | none => exact LeO.refl _
  | some p => exact LeO.ite (LeO.bind (impl_requestOK.mono _ _ _ _ _ _) (fun _ => LeO.refl _)) (LeO.refl _)
set_option maxHeartbeats 4000000 in
set_option maxRecDepth 100000 in
theorem impl_RequestOf.calls (k : Nat) (A0 : Option Addr) (c0 : Nat) (l0 : List (S78)) (r1 r2 r3 r4 : ByteArray) (r5 : List (S78)) (r6 : Int) (w : World) (hr0 : Kd.C k78 w A0 l0.length l0) (hc0 : l0.length ≤ c0) (h : impl_RequestOf.f k l0 = some (r1, r2, r3, r4, r5, r6)) :
    Calls Tryd.prog 30 #[.slice A0 l0.length c0] w fun e w' => ∃ v1_ : Value, e = .returned (.tuple #[.agg #[.string r1, .string r2, .string r3, .string r4, v1_], .int .i64 r6]) ∧ Kd.R k78 78 w' w.heap.size (fun _ => True) v1_ r5 ∧ Below w.heap.size w w' := by
  have huR := Tryd.underlying44
  have HR := Aside0.mk hr0
  clear hr0 hc0
  have HB := Aside0.mk (Below.refl w.heap.size w)
  unfold impl_RequestOf.f at h
  by_cases c1 : l0.length > 64
  · rw [if_pos c1] at h
    simp only [Option.some.injEq, Prod.mk.injEq] at h
    obtain ⟨rfl, rfl, rfl, rfl, rfl, rfl⟩ := h
    have c1b0 : decide (64 < (l0.length : Int)) = true := decide_eq_true (by omega)
    have c1b1 : decide (64 < l0.length) = true := decide_eq_true c1
    clear c1
    go_enter Tryd.func30, Tryd.ntmps30
    go_wp2_with (first
      | ((with_reducible refine gate_dst (N := 2) rfl ?_); refine box_event ?hg (N := 2) ?hd (cs := #[.string (⟨#[]⟩ : ByteArray), .string (⟨#[]⟩ : ByteArray), .string (⟨#[]⟩ : ByteArray), .string (⟨#[]⟩ : ByteArray), .slice none 0 0]) (t := 44) ?hr ?_; (case hd => rfl); (case hg => rfl); (case hr => first | (go_simp; done) | (go_simp; rfl)); intro gb hg w3 hbox hb; have n0_ := Aside0.mk (below_step HB.out hb); have n1_ := Aside0.mk hbox; have n2_ := Aside0.mk (show w.heap.size ≤ gb from by rw [hg]; exact below_size HB.out); have n3_ := Aside0.mk (Kd.C_below HR.out hb); clear HB; have HB := n0_; have BK := n1_; have GE := n2_; have HR3 := n3_; clear n0_ n1_ n2_ n3_ hb hbox hg; have za0 : w3.cell? ⟨gb, 0, none⟩ = some (.string (⟨#[]⟩ : ByteArray)) := (blk_cell BK.out 0).trans rfl; have za1 : w3.cell? ⟨gb, 1, none⟩ = some (.string (⟨#[]⟩ : ByteArray)) := (blk_cell BK.out 1).trans rfl; have za2 : w3.cell? ⟨gb, 2, none⟩ = some (.string (⟨#[]⟩ : ByteArray)) := (blk_cell BK.out 2).trans rfl; have za3 : w3.cell? ⟨gb, 3, none⟩ = some (.string (⟨#[]⟩ : ByteArray)) := (blk_cell BK.out 3).trans rfl; have za4 : w3.cell? ⟨gb, 4, none⟩ = some (.slice none 0 0) := (blk_cell BK.out 4).trans rfl; have zaf0 := blk_frozen BK.out 0; have zaf1 := blk_frozen BK.out 1; have zaf2 := blk_frozen BK.out 2; have zaf3 := blk_frozen BK.out 3; have zaf4 := blk_frozen BK.out 4))
    refine bodyPost_ret (results_ct rfl _ _ gb 44 #[.string (⟨#[]⟩ : ByteArray), .string (⟨#[]⟩ : ByteArray), .string (⟨#[]⟩ : ByteArray), .string (⟨#[]⟩ : ByteArray), .slice none 0 0] (0, 0) _ rfl (by refine blk_put (cs := #[.string (⟨#[]⟩ : ByteArray), .string (⟨#[]⟩ : ByteArray), .string (⟨#[]⟩ : ByteArray), .string (⟨#[]⟩ : ByteArray), .slice none 0 0]) ?_ 4 _ rfl; refine blk_put (cs := #[.string (⟨#[]⟩ : ByteArray), .string (⟨#[]⟩ : ByteArray), .string (⟨#[]⟩ : ByteArray), .string (⟨#[]⟩ : ByteArray), .slice none 0 0]) ?_ 3 _ rfl; refine blk_put (cs := #[.string (⟨#[]⟩ : ByteArray), .string (⟨#[]⟩ : ByteArray), .string (⟨#[]⟩ : ByteArray), .string (⟨#[]⟩ : ByteArray), .slice none 0 0]) ?_ 2 _ rfl; refine blk_put (cs := #[.string (⟨#[]⟩ : ByteArray), .string (⟨#[]⟩ : ByteArray), .string (⟨#[]⟩ : ByteArray), .string (⟨#[]⟩ : ByteArray), .slice none 0 0]) ?_ 1 _ rfl; refine blk_put (cs := #[.string (⟨#[]⟩ : ByteArray), .string (⟨#[]⟩ : ByteArray), .string (⟨#[]⟩ : ByteArray), .string (⟨#[]⟩ : ByteArray), .slice none 0 0]) ?_ 0 _ rfl; (with_reducible repeat (first | refine blk_drewN ?_ _ | refine blk_drew ?_ | refine blk_alloc ?_ _)); exact BK.out) Tryd.underlying44 rfl (by kernel_rfl)) rfl ?_
    exact ⟨_, rfl, Kd.R_nil _ _ _ _ _, by with_reducible repeat (first | exact HB.out | apply below_drew1 | apply pw_below_drewN | refine below_set ?_ GE.out)⟩
  · rw [if_neg c1] at h
    have HL := Aside0.mk (show l0.length ≤ 64 by omega)
    have c1b0 : decide (64 < (l0.length : Int)) = false := decide_eq_false (by omega)
    have c1b1 : decide (64 < l0.length) = false := decide_eq_false c1
    clear c1
    replace h := Option.bind_eq_some_iff.mp h
    obtain ⟨p, hp, h⟩ := h
    have HP := Aside0.mk hp
    clear hp
    cases p with
    | none =>
      simp only [Option.some.injEq, Prod.mk.injEq] at h
      obtain ⟨rfl, rfl, rfl, rfl, rfl, rfl⟩ := h
      go_enter Tryd.func30, Tryd.ntmps30
      go_wp2_with (first
        | ((with_reducible refine gate_dst (N := 2) rfl ?_); refine box_event ?hg (N := 2) ?hd (cs := #[.string (⟨#[]⟩ : ByteArray), .string (⟨#[]⟩ : ByteArray), .string (⟨#[]⟩ : ByteArray), .string (⟨#[]⟩ : ByteArray), .slice none 0 0]) (t := 44) ?hr ?_; (case hd => rfl); (case hg => rfl); (case hr => first | (go_simp; done) | (go_simp; rfl)); intro gb hg w3 hbox hb; have n0_ := Aside0.mk (below_step HB.out hb); have n1_ := Aside0.mk hbox; have n2_ := Aside0.mk (show w.heap.size ≤ gb from by rw [hg]; exact below_size HB.out); have n3_ := Aside0.mk (Kd.C_below HR.out hb); clear HB; have HB := n0_; have BK := n1_; have GE := n2_; have HR3 := n3_; clear n0_ n1_ n2_ n3_ hb hbox hg; have za0 : w3.cell? ⟨gb, 0, none⟩ = some (.string (⟨#[]⟩ : ByteArray)) := (blk_cell BK.out 0).trans rfl; have za1 : w3.cell? ⟨gb, 1, none⟩ = some (.string (⟨#[]⟩ : ByteArray)) := (blk_cell BK.out 1).trans rfl; have za2 : w3.cell? ⟨gb, 2, none⟩ = some (.string (⟨#[]⟩ : ByteArray)) := (blk_cell BK.out 2).trans rfl; have za3 : w3.cell? ⟨gb, 3, none⟩ = some (.string (⟨#[]⟩ : ByteArray)) := (blk_cell BK.out 3).trans rfl; have za4 : w3.cell? ⟨gb, 4, none⟩ = some (.slice none 0 0) := (blk_cell BK.out 4).trans rfl; have zaf0 := blk_frozen BK.out 0; have zaf1 := blk_frozen BK.out 1; have zaf2 := blk_frozen BK.out 2; have zaf3 := blk_frozen BK.out 3; have zaf4 := blk_frozen BK.out 4)
        | (go_at_call 57; (with_reducible refine (impl_pseudo.calls A0 c0 l0 none _ HL.out HR3.out HP.out).mono ?_); rintro e w5 ⟨hp5, hb5⟩; have hp6 : e = _ := hp5; subst hp6; clear hp5; have n0_ := Aside0.mk (below_step HB.out hb5); have n1_ := Aside0.mk (blk_below BK.out hb5); clear HB BK; clear za0 zaf0 za1 zaf1 za2 zaf2 za3 zaf3 za4 zaf4; have HB := n0_; have BK := n1_; clear n0_ n1_ hb5; have zb0 : w5.cell? ⟨gb, 0, none⟩ = some (.string (⟨#[]⟩ : ByteArray)) := (blk_cell BK.out 0).trans rfl; have zb1 : w5.cell? ⟨gb, 1, none⟩ = some (.string (⟨#[]⟩ : ByteArray)) := (blk_cell BK.out 1).trans rfl; have zb2 : w5.cell? ⟨gb, 2, none⟩ = some (.string (⟨#[]⟩ : ByteArray)) := (blk_cell BK.out 2).trans rfl; have zb3 : w5.cell? ⟨gb, 3, none⟩ = some (.string (⟨#[]⟩ : ByteArray)) := (blk_cell BK.out 3).trans rfl; have zb4 : w5.cell? ⟨gb, 4, none⟩ = some (.slice none 0 0) := (blk_cell BK.out 4).trans rfl; have zbf0 := blk_frozen BK.out 0; have zbf1 := blk_frozen BK.out 1; have zbf2 := blk_frozen BK.out 2; have zbf3 := blk_frozen BK.out 3; have zbf4 := blk_frozen BK.out 4))
      refine bodyPost_ret (results_ct rfl _ _ gb 44 #[.string (⟨#[]⟩ : ByteArray), .string (⟨#[]⟩ : ByteArray), .string (⟨#[]⟩ : ByteArray), .string (⟨#[]⟩ : ByteArray), .slice none 0 0] (0, 0) _ rfl (by refine blk_put (cs := #[.string (⟨#[]⟩ : ByteArray), .string (⟨#[]⟩ : ByteArray), .string (⟨#[]⟩ : ByteArray), .string (⟨#[]⟩ : ByteArray), .slice none 0 0]) ?_ 4 _ rfl; refine blk_put (cs := #[.string (⟨#[]⟩ : ByteArray), .string (⟨#[]⟩ : ByteArray), .string (⟨#[]⟩ : ByteArray), .string (⟨#[]⟩ : ByteArray), .slice none 0 0]) ?_ 3 _ rfl; refine blk_put (cs := #[.string (⟨#[]⟩ : ByteArray), .string (⟨#[]⟩ : ByteArray), .string (⟨#[]⟩ : ByteArray), .string (⟨#[]⟩ : ByteArray), .slice none 0 0]) ?_ 2 _ rfl; refine blk_put (cs := #[.string (⟨#[]⟩ : ByteArray), .string (⟨#[]⟩ : ByteArray), .string (⟨#[]⟩ : ByteArray), .string (⟨#[]⟩ : ByteArray), .slice none 0 0]) ?_ 1 _ rfl; refine blk_put (cs := #[.string (⟨#[]⟩ : ByteArray), .string (⟨#[]⟩ : ByteArray), .string (⟨#[]⟩ : ByteArray), .string (⟨#[]⟩ : ByteArray), .slice none 0 0]) ?_ 0 _ rfl; (with_reducible repeat (first | refine blk_drewN ?_ _ | refine blk_drew ?_ | refine blk_alloc ?_ _)); exact BK.out) Tryd.underlying44 rfl (by kernel_rfl)) rfl ?_
      exact ⟨_, rfl, Kd.R_nil _ _ _ _ _, by with_reducible repeat (first | exact HB.out | apply below_drew1 | apply pw_below_drewN | refine below_set ?_ GE.out)⟩
    | some p =>
      obtain ⟨hs, rs⟩ := p
      have H := Aside0.mk (show reqRest k hs rs = some (r1, r2, r3, r4, r5, r6) from h)
      clear h
      go_enter Tryd.func30, Tryd.ntmps30
      go_wp2_with (first
        | ((with_reducible refine gate_dst (N := 2) rfl ?_); refine box_event ?hg (N := 2) ?hd (cs := #[.string (⟨#[]⟩ : ByteArray), .string (⟨#[]⟩ : ByteArray), .string (⟨#[]⟩ : ByteArray), .string (⟨#[]⟩ : ByteArray), .slice none 0 0]) (t := 44) ?hr ?_; (case hd => rfl); (case hg => rfl); (case hr => first | (go_simp; done) | (go_simp; rfl)); intro gb hg w3 hbox hb; have n0_ := Aside0.mk (below_step HB.out hb); have n1_ := Aside0.mk hbox; have n2_ := Aside0.mk (show w.heap.size ≤ gb from by rw [hg]; exact below_size HB.out); have n3_ := Aside0.mk (Kd.C_below HR.out hb); clear HB; have HB := n0_; have BK := n1_; have GE := n2_; have HR3 := n3_; clear n0_ n1_ n2_ n3_ hb hbox hg; have za0 : w3.cell? ⟨gb, 0, none⟩ = some (.string (⟨#[]⟩ : ByteArray)) := (blk_cell BK.out 0).trans rfl; have za1 : w3.cell? ⟨gb, 1, none⟩ = some (.string (⟨#[]⟩ : ByteArray)) := (blk_cell BK.out 1).trans rfl; have za2 : w3.cell? ⟨gb, 2, none⟩ = some (.string (⟨#[]⟩ : ByteArray)) := (blk_cell BK.out 2).trans rfl; have za3 : w3.cell? ⟨gb, 3, none⟩ = some (.string (⟨#[]⟩ : ByteArray)) := (blk_cell BK.out 3).trans rfl; have za4 : w3.cell? ⟨gb, 4, none⟩ = some (.slice none 0 0) := (blk_cell BK.out 4).trans rfl; have zaf0 := blk_frozen BK.out 0; have zaf1 := blk_frozen BK.out 1; have zaf2 := blk_frozen BK.out 2; have zaf3 := blk_frozen BK.out 3; have zaf4 := blk_frozen BK.out 4)
        | (go_at_call 57; (with_reducible refine (impl_pseudo.calls A0 c0 l0 (some (hs, rs)) _ HL.out HR3.out HP.out).mono ?_); rintro e w5 ⟨⟨vr, hp5, hm5, hr5⟩, hb5⟩; subst hp5; obtain ⟨mb, hmb⟩ : ∃ m : Nat, m = w3.heap.size := ⟨_, rfl⟩; rw [← hmb] at hm5; rw [← hmb]; clear hmb; have HM := Aside0.mk hm5; have HO := Aside0.mk (Kd.R_lower hr5 (below_size HB.out)); clear hm5 hr5; obtain ⟨Ao, co, eo⟩ := Kd.R_slice HO.out; subst eo; have n0_ := Aside0.mk (below_step HB.out hb5); have n1_ := Aside0.mk (blk_below BK.out hb5); clear HB BK; clear za0 zaf0 za1 zaf1 za2 zaf2 za3 zaf3 za4 zaf4; have HB := n0_; have BK := n1_; clear n0_ n1_ hb5; have zb0 : w5.cell? ⟨gb, 0, none⟩ = some (.string (⟨#[]⟩ : ByteArray)) := (blk_cell BK.out 0).trans rfl; have zb1 : w5.cell? ⟨gb, 1, none⟩ = some (.string (⟨#[]⟩ : ByteArray)) := (blk_cell BK.out 1).trans rfl; have zb2 : w5.cell? ⟨gb, 2, none⟩ = some (.string (⟨#[]⟩ : ByteArray)) := (blk_cell BK.out 2).trans rfl; have zb3 : w5.cell? ⟨gb, 3, none⟩ = some (.string (⟨#[]⟩ : ByteArray)) := (blk_cell BK.out 3).trans rfl; have zb4 : w5.cell? ⟨gb, 4, none⟩ = some (.slice none 0 0) := (blk_cell BK.out 4).trans rfl; have zbf0 := blk_frozen BK.out 0; have zbf1 := blk_frozen BK.out 1; have zbf2 := blk_frozen BK.out 2; have zbf3 := blk_frozen BK.out 3; have zbf4 := blk_frozen BK.out 4)
        | ((with_reducible refine gate_dst (N := 7) rfl ?_); refine box_event ?hg (N := 7) ?hd (cs := #[.string (⟨#[]⟩ : ByteArray), .string (⟨#[]⟩ : ByteArray), .string (⟨#[]⟩ : ByteArray), .string (⟨#[]⟩ : ByteArray), .slice none 0 0]) (t := 44) ?hr ?_; (case hd => rfl); (case hg => rfl); (case hr => first | (go_simp; done) | (go_simp; rfl)); intro g2 hg w7 hbox hb; have n0_ := Aside0.mk (below_step HB.out hb); have n1_ := Aside0.mk hbox; have n2_ := Aside0.mk (show w.heap.size ≤ g2 from by rw [hg]; exact below_size HB.out); have n3_ := Aside0.mk (Kd.R_below HO.out hb); have n4_ := Aside0.mk (show gb ≠ g2 from by rw [hg]; exact Nat.ne_of_lt (blk_lt BK.out)); have n5_ := Aside0.mk (blk_below BK.out hb); have n6_ := Aside0.mk (HM.out.below hb); have n7_ := Aside0.mk (show mb ≠ g2 from by rw [hg]; exact Nat.ne_of_lt HM.out.lt); clear zb0 zbf0 zb1 zbf1 zb2 zbf2 zb3 zbf3 zb4 zbf4; clear HB HO BK HM; have HB := n0_; have BK2 := n1_; have GE2 := n2_; have HO := n3_; have NE := n4_; have BK := n5_; have HM := n6_; have NM := n7_; clear n0_ n1_ n2_ n3_ n4_ n5_ n6_ n7_ hb hbox hg; have zc0 : w7.cell? ⟨g2, 0, none⟩ = some (.string (⟨#[]⟩ : ByteArray)) := (blk_cell BK2.out 0).trans rfl; have zc1 : w7.cell? ⟨g2, 1, none⟩ = some (.string (⟨#[]⟩ : ByteArray)) := (blk_cell BK2.out 1).trans rfl; have zc2 : w7.cell? ⟨g2, 2, none⟩ = some (.string (⟨#[]⟩ : ByteArray)) := (blk_cell BK2.out 2).trans rfl; have zc3 : w7.cell? ⟨g2, 3, none⟩ = some (.string (⟨#[]⟩ : ByteArray)) := (blk_cell BK2.out 3).trans rfl; have zc4 : w7.cell? ⟨g2, 4, none⟩ = some (.slice none 0 0) := (blk_cell BK2.out 4).trans rfl; have zcf0 := blk_frozen BK2.out 0; have zcf1 := blk_frozen BK2.out 1; have zcf2 := blk_frozen BK2.out 2; have zcf3 := blk_frozen BK2.out 3; have zcf4 := blk_frozen BK2.out 4)
        | (at_range; refine wp_seal (fun W => Go.Proofs.YtkcimmlaoipdkaaDoor.MapF.MapF psK psE W mb 64 (lookF hs) hs.length ∧ W.heap[gb]? = some (.cells #[.string (⟨#[]⟩ : ByteArray), .string (⟨#[]⟩ : ByteArray), .string (⟨#[]⟩ : ByteArray), .string (⟨#[]⟩ : ByteArray), .slice none 0 0] 44 (0, 0)) ∧ W.heap[g2]? = some (.cells #[.string (⟨#[]⟩ : ByteArray), .string (⟨#[]⟩ : ByteArray), .string (⟨#[]⟩ : ByteArray), .string (⟨#[]⟩ : ByteArray), .slice Ao rs.length co] 44 (0, 0)) ∧ Kd.R k78 78 W w.heap.size (fun _ => True) (.slice Ao rs.length co) rs ∧ Below w.heap.size w W) ⟨(Go.Proofs.YtkcimmlaoipdkaaDoor.MapF.MapF.setCell (Go.Proofs.YtkcimmlaoipdkaaDoor.MapF.MapF.setCell (Go.Proofs.YtkcimmlaoipdkaaDoor.MapF.MapF.setCell (Go.Proofs.YtkcimmlaoipdkaaDoor.MapF.MapF.setCell (Go.Proofs.YtkcimmlaoipdkaaDoor.MapF.MapF.setCell HM.out NM.out _) NM.out _) NM.out _) NM.out _) NM.out _), (blk_far (blk_far (blk_far (blk_far (blk_far BK.out NE.out _) NE.out _) NE.out _) NE.out _) NE.out _), (blk_put (cs := #[.string (⟨#[]⟩ : ByteArray), .string (⟨#[]⟩ : ByteArray), .string (⟨#[]⟩ : ByteArray), .string (⟨#[]⟩ : ByteArray), .slice none 0 0]) (blk_put (cs := #[.string (⟨#[]⟩ : ByteArray), .string (⟨#[]⟩ : ByteArray), .string (⟨#[]⟩ : ByteArray), .string (⟨#[]⟩ : ByteArray), .slice none 0 0]) (blk_put (cs := #[.string (⟨#[]⟩ : ByteArray), .string (⟨#[]⟩ : ByteArray), .string (⟨#[]⟩ : ByteArray), .string (⟨#[]⟩ : ByteArray), .slice none 0 0]) (blk_put (cs := #[.string (⟨#[]⟩ : ByteArray), .string (⟨#[]⟩ : ByteArray), .string (⟨#[]⟩ : ByteArray), .string (⟨#[]⟩ : ByteArray), .slice none 0 0]) (blk_put (cs := #[.string (⟨#[]⟩ : ByteArray), .string (⟨#[]⟩ : ByteArray), .string (⟨#[]⟩ : ByteArray), .string (⟨#[]⟩ : ByteArray), .slice none 0 0]) BK2.out 0 _ rfl) 1 _ rfl) 2 _ rfl) 3 _ rfl) 4 _ rfl), (Kd.R_set (Kd.R_set (Kd.R_set (Kd.R_set (Kd.R_set HO.out BK2.out (by decide) 0 _) (blk_put BK2.out 0 _ rfl) (by decide) 1 _) (blk_put (blk_put BK2.out 0 _ rfl) 1 _ rfl) (by decide) 2 _) (blk_put (blk_put (blk_put BK2.out 0 _ rfl) 1 _ rfl) 2 _ rfl) (by decide) 3 _) (blk_put (blk_put (blk_put (blk_put BK2.out 0 _ rfl) 1 _ rfl) 2 _ rfl) 3 _ rfl) (by decide) 4 _), (below_set (below_set (below_set (below_set (below_set HB.out GE2.out) GE2.out) GE2.out) GE2.out) GE2.out)⟩ ?_; clear zc0 zcf0 zc1 zcf1 zc2 zcf2 zc3 zcf3 zc4 zcf4; clear HM BK BK2 HO HB; rintro W8 ⟨hm8, hk8, hq8, ho8, hb8⟩; refine Go.Proofs.YtkcimmlaoipdkaaDoor.MapF.wp_range W8 rfl (.tmp 25) 88 rfl Tryd.underlying88 hm8 rfl ?_; intro w9 hr9 hg9 hs9; have HM := Aside0.mk hr9; have BK := Aside0.mk (blk_grown hk8 hg9 (by simp)); have BK2 := Aside0.mk (blk_grown hq8 hg9 (by simp)); have HO := Aside0.mk (Kd.R_grown ho8 hg9 (fun _ _ => by simp)); have HB := Aside0.mk (pw_below_grown hb8 none (below_size hb8) hg9 (fun _ h => by cases h)); have GI := Aside0.mk (below_size hb8); clear hm8 hk8 hq8 ho8 hb8 hr9 hg9 hs9))
      go_frame
      obtain ⟨rb, hrb⟩ : ∃ r : Nat, r = W8.heap.size := ⟨_, rfl⟩
      rw [← hrb] at GI HM
      rw [← hrb]
      clear hrb
      go_loopg [6] hs.length (fun kq v6 w' => ∃ left : ByteArray → Bool, v6 = .bool true ∧ Aside0 (Go.Proofs.YtkcimmlaoipdkaaDoor.MapF.MapR psK psE w' mb rb 64 (lookF hs) left kq) ∧ Aside0 (w'.heap[gb]? = some (.cells #[.string (⟨#[]⟩ : ByteArray), .string (⟨#[]⟩ : ByteArray), .string (⟨#[]⟩ : ByteArray), .string (⟨#[]⟩ : ByteArray), .slice none 0 0] 44 (0, 0))) ∧ Aside0 (w'.heap[g2]? = some (.cells #[.string (reqPick hs left (⟨#[58, 109, 101, 116, 104, 111, 100]⟩ : ByteArray)), .string (reqPick hs left (⟨#[58, 115, 99, 104, 101, 109, 101]⟩ : ByteArray)), .string (reqPick hs left (⟨#[58, 97, 117, 116, 104, 111, 114, 105, 116, 121]⟩ : ByteArray)), .string (reqPick hs left (⟨#[58, 112, 97, 116, 104]⟩ : ByteArray)), .slice Ao rs.length co] 44 (0, 0))) ∧ Aside0 (∀ x, left x = false → ∀ u, lookF hs x = some u → reqFine x u = true) ∧ Aside0 (Kd.R k78 78 w' w.heap.size (fun _ => True) (.slice Ao rs.length co) rs) ∧ Aside0 (Below w.heap.size w w'))
      case atStart =>
        refine ⟨fun x => (lookF hs x).isSome, rfl, HM, BK, ⟨?_⟩, ⟨?_⟩, HO, HB⟩
        · have e_ : ∀ y, reqPick hs (fun x => (lookF hs x).isSome) y = ⟨#[]⟩ := by
            intro y
            unfold reqPick getH
            show (if (lookF hs y).isSome = true then (⟨#[]⟩ : ByteArray) else (lookF hs y).getD ⟨#[]⟩) = _
            cases lookF hs y <;> rfl
          rw [e_, e_, e_, e_]
          exact BK2.out
        · intro x hx u hu
          replace hx : (lookF hs x).isSome = false := hx
          rw [hu] at hx
          cases hx
      case round =>
        clear HM BK BK2 HO HB
        obtain ⟨left, rfl, HM, BK, BK2, FV, HO, HB⟩ := hrel
        refine wp_seq (wp_region_list ?_)
        refine Go.Proofs.YtkcimmlaoipdkaaDoor.MapF.wp_next wr rfl (.tmp 26) rfl HM.out rfl ?_ ?_
        · intro hl
          have hfv : ∀ x u, lookF hs x = some u → reqFine x u = true := fun x u hu => FV.out x (hl x) u hu
          obtain ⟨q, hq, hres⟩ := reqRest_good H.out hfv
          have AO := Aside0.mk hq
          have ep_ : ∀ y, reqPick hs left y = getH hs y := by
            intro y
            unfold reqPick
            rw [hl y]
            rfl
          have n0_ := BK2.out
          rw [ep_, ep_, ep_, ep_] at n0_
          clear BK2 hl hfv hq ep_ FV HM
          have BK2 := Aside0.mk n0_
          clear n0_
          have zb0 : wr.cell? ⟨gb, 0, none⟩ = some (.string (⟨#[]⟩ : ByteArray)) := (blk_cell BK.out 0).trans rfl
          have zb1 : wr.cell? ⟨gb, 1, none⟩ = some (.string (⟨#[]⟩ : ByteArray)) := (blk_cell BK.out 1).trans rfl
          have zb2 : wr.cell? ⟨gb, 2, none⟩ = some (.string (⟨#[]⟩ : ByteArray)) := (blk_cell BK.out 2).trans rfl
          have zb3 : wr.cell? ⟨gb, 3, none⟩ = some (.string (⟨#[]⟩ : ByteArray)) := (blk_cell BK.out 3).trans rfl
          have zb4 : wr.cell? ⟨gb, 4, none⟩ = some (.slice none 0 0) := (blk_cell BK.out 4).trans rfl
          have zbf0 := blk_frozen BK.out 0
          have zbf1 := blk_frozen BK.out 1
          have zbf2 := blk_frozen BK.out 2
          have zbf3 := blk_frozen BK.out 3
          have zbf4 := blk_frozen BK.out 4
          have zd0 : wr.cell? ⟨g2, 0, none⟩ = some (.string (getH hs (⟨#[58, 109, 101, 116, 104, 111, 100]⟩ : ByteArray))) := (blk_cell BK2.out 0).trans rfl
          have zd1 : wr.cell? ⟨g2, 1, none⟩ = some (.string (getH hs (⟨#[58, 115, 99, 104, 101, 109, 101]⟩ : ByteArray))) := (blk_cell BK2.out 1).trans rfl
          have zd2 : wr.cell? ⟨g2, 2, none⟩ = some (.string (getH hs (⟨#[58, 97, 117, 116, 104, 111, 114, 105, 116, 121]⟩ : ByteArray))) := (blk_cell BK2.out 2).trans rfl
          have zd3 : wr.cell? ⟨g2, 3, none⟩ = some (.string (getH hs (⟨#[58, 112, 97, 116, 104]⟩ : ByteArray))) := (blk_cell BK2.out 3).trans rfl
          have zd4 : wr.cell? ⟨g2, 4, none⟩ = some (.slice Ao rs.length co) := (blk_cell BK2.out 4).trans rfl
          have zdf0 := blk_frozen BK2.out 0
          have zdf1 := blk_frozen BK2.out 1
          have zdf2 := blk_frozen BK2.out 2
          have zdf3 := blk_frozen BK2.out 3
          have zdf4 := blk_frozen BK2.out 4
          cases q with
          | false =>
            rw [if_neg (by decide)] at hres
            simp only [Option.some.injEq, Prod.mk.injEq] at hres
            obtain ⟨rfl, rfl, rfl, rfl, rfl, rfl⟩ := hres
            go_wp2_with (first
              | (go_at_call 54; (with_reducible refine (impl_requestOK.calls k (getH hs (⟨#[58, 109, 101, 116, 104, 111, 100]⟩ : ByteArray)) (getH hs (⟨#[58, 115, 99, 104, 101, 109, 101]⟩ : ByteArray)) (getH hs (⟨#[58, 97, 117, 116, 104, 111, 114, 105, 116, 121]⟩ : ByteArray)) (getH hs (⟨#[58, 112, 97, 116, 104]⟩ : ByteArray)) Ao co rs _ _ (Kd.R_reads' (e := 78) (base := w.heap.size) (ok := fun _ => True) (n := rs.length) (c := co) HO.out).2.2 (Kd.R_reads' HO.out).2.1 AO.out).mono ?_); rintro e w8 ⟨rfl, hb8⟩; have n0_ := Aside0.mk (Kd.R_below HO.out hb8); have n1_ := Aside0.mk (blk_below BK.out hb8); have n2_ := Aside0.mk (blk_below BK2.out hb8); have n3_ := Aside0.mk (below_step HB.out hb8); clear zd0 zdf0 zd1 zdf1 zd2 zdf2 zd3 zdf3 zd4 zdf4; clear zb0 zbf0 zb1 zbf1 zb2 zbf2 zb3 zbf3 zb4 zbf4; clear HO BK BK2 HB; have HO := n0_; have BK := n1_; have BK2 := n2_; have HB := n3_; clear n0_ n1_ n2_ n3_ hb8; have zb0 : w8.cell? ⟨gb, 0, none⟩ = some (.string (⟨#[]⟩ : ByteArray)) := (blk_cell BK.out 0).trans rfl; have zb1 : w8.cell? ⟨gb, 1, none⟩ = some (.string (⟨#[]⟩ : ByteArray)) := (blk_cell BK.out 1).trans rfl; have zb2 : w8.cell? ⟨gb, 2, none⟩ = some (.string (⟨#[]⟩ : ByteArray)) := (blk_cell BK.out 2).trans rfl; have zb3 : w8.cell? ⟨gb, 3, none⟩ = some (.string (⟨#[]⟩ : ByteArray)) := (blk_cell BK.out 3).trans rfl; have zb4 : w8.cell? ⟨gb, 4, none⟩ = some (.slice none 0 0) := (blk_cell BK.out 4).trans rfl; have zbf0 := blk_frozen BK.out 0; have zbf1 := blk_frozen BK.out 1; have zbf2 := blk_frozen BK.out 2; have zbf3 := blk_frozen BK.out 3; have zbf4 := blk_frozen BK.out 4; have zd0 : w8.cell? ⟨g2, 0, none⟩ = some (.string (getH hs (⟨#[58, 109, 101, 116, 104, 111, 100]⟩ : ByteArray))) := (blk_cell BK2.out 0).trans rfl; have zd1 : w8.cell? ⟨g2, 1, none⟩ = some (.string (getH hs (⟨#[58, 115, 99, 104, 101, 109, 101]⟩ : ByteArray))) := (blk_cell BK2.out 1).trans rfl; have zd2 : w8.cell? ⟨g2, 2, none⟩ = some (.string (getH hs (⟨#[58, 97, 117, 116, 104, 111, 114, 105, 116, 121]⟩ : ByteArray))) := (blk_cell BK2.out 2).trans rfl; have zd3 : w8.cell? ⟨g2, 3, none⟩ = some (.string (getH hs (⟨#[58, 112, 97, 116, 104]⟩ : ByteArray))) := (blk_cell BK2.out 3).trans rfl; have zd4 : w8.cell? ⟨g2, 4, none⟩ = some (.slice Ao rs.length co) := (blk_cell BK2.out 4).trans rfl; have zdf0 := blk_frozen BK2.out 0; have zdf1 := blk_frozen BK2.out 1; have zdf2 := blk_frozen BK2.out 2; have zdf3 := blk_frozen BK2.out 3; have zdf4 := blk_frozen BK2.out 4))
            refine bodyPost_ret (results_ct rfl _ _ gb 44 #[.string (⟨#[]⟩ : ByteArray), .string (⟨#[]⟩ : ByteArray), .string (⟨#[]⟩ : ByteArray), .string (⟨#[]⟩ : ByteArray), .slice none 0 0] (0, 0) _ rfl (by refine blk_put (cs := #[.string (⟨#[]⟩ : ByteArray), .string (⟨#[]⟩ : ByteArray), .string (⟨#[]⟩ : ByteArray), .string (⟨#[]⟩ : ByteArray), .slice none 0 0]) ?_ 4 _ rfl; refine blk_put (cs := #[.string (⟨#[]⟩ : ByteArray), .string (⟨#[]⟩ : ByteArray), .string (⟨#[]⟩ : ByteArray), .string (⟨#[]⟩ : ByteArray), .slice none 0 0]) ?_ 3 _ rfl; refine blk_put (cs := #[.string (⟨#[]⟩ : ByteArray), .string (⟨#[]⟩ : ByteArray), .string (⟨#[]⟩ : ByteArray), .string (⟨#[]⟩ : ByteArray), .slice none 0 0]) ?_ 2 _ rfl; refine blk_put (cs := #[.string (⟨#[]⟩ : ByteArray), .string (⟨#[]⟩ : ByteArray), .string (⟨#[]⟩ : ByteArray), .string (⟨#[]⟩ : ByteArray), .slice none 0 0]) ?_ 1 _ rfl; refine blk_put (cs := #[.string (⟨#[]⟩ : ByteArray), .string (⟨#[]⟩ : ByteArray), .string (⟨#[]⟩ : ByteArray), .string (⟨#[]⟩ : ByteArray), .slice none 0 0]) ?_ 0 _ rfl; (with_reducible repeat (first | refine blk_drewN ?_ _ | refine blk_drew ?_ | refine blk_alloc ?_ _)); exact BK.out) Tryd.underlying44 rfl (by kernel_rfl)) rfl ?_
            exact ⟨_, rfl, Kd.R_nil _ _ _ _ _, by with_reducible repeat (first | exact HB.out | apply below_drew1 | apply pw_below_drewN | refine below_set ?_ GE.out)⟩
          | true =>
            rw [if_pos rfl] at hres
            simp only [Option.some.injEq, Prod.mk.injEq] at hres
            obtain ⟨rfl, rfl, rfl, rfl, rfl, rfl⟩ := hres
            go_wp2_with (first
              | (go_at_call 54; (with_reducible refine (impl_requestOK.calls k (getH hs (⟨#[58, 109, 101, 116, 104, 111, 100]⟩ : ByteArray)) (getH hs (⟨#[58, 115, 99, 104, 101, 109, 101]⟩ : ByteArray)) (getH hs (⟨#[58, 97, 117, 116, 104, 111, 114, 105, 116, 121]⟩ : ByteArray)) (getH hs (⟨#[58, 112, 97, 116, 104]⟩ : ByteArray)) Ao co rs _ _ (Kd.R_reads' (e := 78) (base := w.heap.size) (ok := fun _ => True) (n := rs.length) (c := co) HO.out).2.2 (Kd.R_reads' HO.out).2.1 AO.out).mono ?_); rintro e w8 ⟨rfl, hb8⟩; have n0_ := Aside0.mk (Kd.R_below HO.out hb8); have n1_ := Aside0.mk (blk_below BK.out hb8); have n2_ := Aside0.mk (blk_below BK2.out hb8); have n3_ := Aside0.mk (below_step HB.out hb8); clear zd0 zdf0 zd1 zdf1 zd2 zdf2 zd3 zdf3 zd4 zdf4; clear zb0 zbf0 zb1 zbf1 zb2 zbf2 zb3 zbf3 zb4 zbf4; clear HO BK BK2 HB; have HO := n0_; have BK := n1_; have BK2 := n2_; have HB := n3_; clear n0_ n1_ n2_ n3_ hb8; have zb0 : w8.cell? ⟨gb, 0, none⟩ = some (.string (⟨#[]⟩ : ByteArray)) := (blk_cell BK.out 0).trans rfl; have zb1 : w8.cell? ⟨gb, 1, none⟩ = some (.string (⟨#[]⟩ : ByteArray)) := (blk_cell BK.out 1).trans rfl; have zb2 : w8.cell? ⟨gb, 2, none⟩ = some (.string (⟨#[]⟩ : ByteArray)) := (blk_cell BK.out 2).trans rfl; have zb3 : w8.cell? ⟨gb, 3, none⟩ = some (.string (⟨#[]⟩ : ByteArray)) := (blk_cell BK.out 3).trans rfl; have zb4 : w8.cell? ⟨gb, 4, none⟩ = some (.slice none 0 0) := (blk_cell BK.out 4).trans rfl; have zbf0 := blk_frozen BK.out 0; have zbf1 := blk_frozen BK.out 1; have zbf2 := blk_frozen BK.out 2; have zbf3 := blk_frozen BK.out 3; have zbf4 := blk_frozen BK.out 4; have zd0 : w8.cell? ⟨g2, 0, none⟩ = some (.string (getH hs (⟨#[58, 109, 101, 116, 104, 111, 100]⟩ : ByteArray))) := (blk_cell BK2.out 0).trans rfl; have zd1 : w8.cell? ⟨g2, 1, none⟩ = some (.string (getH hs (⟨#[58, 115, 99, 104, 101, 109, 101]⟩ : ByteArray))) := (blk_cell BK2.out 1).trans rfl; have zd2 : w8.cell? ⟨g2, 2, none⟩ = some (.string (getH hs (⟨#[58, 97, 117, 116, 104, 111, 114, 105, 116, 121]⟩ : ByteArray))) := (blk_cell BK2.out 2).trans rfl; have zd3 : w8.cell? ⟨g2, 3, none⟩ = some (.string (getH hs (⟨#[58, 112, 97, 116, 104]⟩ : ByteArray))) := (blk_cell BK2.out 3).trans rfl; have zd4 : w8.cell? ⟨g2, 4, none⟩ = some (.slice Ao rs.length co) := (blk_cell BK2.out 4).trans rfl; have zdf0 := blk_frozen BK2.out 0; have zdf1 := blk_frozen BK2.out 1; have zdf2 := blk_frozen BK2.out 2; have zdf3 := blk_frozen BK2.out 3; have zdf4 := blk_frozen BK2.out 4))
            refine bodyPost_ret (results_ct rfl _ _ gb 44 #[.string (getH hs (⟨#[58, 109, 101, 116, 104, 111, 100]⟩ : ByteArray)), .string (getH hs (⟨#[58, 115, 99, 104, 101, 109, 101]⟩ : ByteArray)), .string (getH hs (⟨#[58, 97, 117, 116, 104, 111, 114, 105, 116, 121]⟩ : ByteArray)), .string (getH hs (⟨#[58, 112, 97, 116, 104]⟩ : ByteArray)), .slice Ao rs.length co] (0, 0) _ rfl (by refine blk_put (cs := #[.string (getH hs (⟨#[58, 109, 101, 116, 104, 111, 100]⟩ : ByteArray)), .string (getH hs (⟨#[58, 115, 99, 104, 101, 109, 101]⟩ : ByteArray)), .string (getH hs (⟨#[58, 97, 117, 116, 104, 111, 114, 105, 116, 121]⟩ : ByteArray)), .string (getH hs (⟨#[58, 112, 97, 116, 104]⟩ : ByteArray)), .slice none 0 0]) ?_ 4 _ rfl; refine blk_put (cs := #[.string (getH hs (⟨#[58, 109, 101, 116, 104, 111, 100]⟩ : ByteArray)), .string (getH hs (⟨#[58, 115, 99, 104, 101, 109, 101]⟩ : ByteArray)), .string (getH hs (⟨#[58, 97, 117, 116, 104, 111, 114, 105, 116, 121]⟩ : ByteArray)), .string (⟨#[]⟩ : ByteArray), .slice none 0 0]) ?_ 3 _ rfl; refine blk_put (cs := #[.string (getH hs (⟨#[58, 109, 101, 116, 104, 111, 100]⟩ : ByteArray)), .string (getH hs (⟨#[58, 115, 99, 104, 101, 109, 101]⟩ : ByteArray)), .string (⟨#[]⟩ : ByteArray), .string (⟨#[]⟩ : ByteArray), .slice none 0 0]) ?_ 2 _ rfl; refine blk_put (cs := #[.string (getH hs (⟨#[58, 109, 101, 116, 104, 111, 100]⟩ : ByteArray)), .string (⟨#[]⟩ : ByteArray), .string (⟨#[]⟩ : ByteArray), .string (⟨#[]⟩ : ByteArray), .slice none 0 0]) ?_ 1 _ rfl; refine blk_put (cs := #[.string (⟨#[]⟩ : ByteArray), .string (⟨#[]⟩ : ByteArray), .string (⟨#[]⟩ : ByteArray), .string (⟨#[]⟩ : ByteArray), .slice none 0 0]) ?_ 0 _ rfl; exact BK.out) Tryd.underlying44 rfl (by kernel_rfl)) rfl ?_
            exact ⟨_, rfl, (Kd.R_set (Kd.R_set (Kd.R_set (Kd.R_set (Kd.R_set HO.out BK.out (by decide) 0 _) (blk_put BK.out 0 _ rfl) (by decide) 1 _) (blk_put (blk_put BK.out 0 _ rfl) 1 _ rfl) (by decide) 2 _) (blk_put (blk_put (blk_put BK.out 0 _ rfl) 1 _ rfl) 2 _ rfl) (by decide) 3 _) (blk_put (blk_put (blk_put (blk_put BK.out 0 _ rfl) 1 _ rfl) 2 _ rfl) 3 _ rfl) (by decide) 4 _), by with_reducible repeat (first | exact HB.out | apply below_drew1 | apply pw_below_drewN | refine below_set ?_ GE.out)⟩
        · intro x u w5 c5 hl hf gx hr hc hgr hsz hen
          have HF := Aside0.mk hf
          have HC := Aside0.mk hc
          have hns := HM.out.notCells BK.out
          have hns2 := HM.out.notCells BK2.out
          have n0_ := Aside0.mk hr
          have n1_ := Aside0.mk (blk_grown BK.out hgr (fun q => hns.2 (by injection q with q; exact q.symm)))
          have n2_ := Aside0.mk (blk_grown BK2.out hgr (fun q => hns2.2 (by injection q with q; exact q.symm)))
          have n3_ := Aside0.mk (R_ofIter HO.out HM.out hgr)
          have n4_ := Aside0.mk (HB.out.grown hgr (below_size HB.out) (fun j hj => by injection hj with hj; rw [← hj]; exact GI.out))
          have NS2 := Aside0.mk (show mb ≠ g2 ∧ rb ≠ g2 from hns2)
          clear HM BK BK2 HO HB hl hf gx hr hc hgr hsz hns hns2
          have HM := n0_
          have BK := n1_
          have BK2 := n2_
          have HO := n3_
          have HB := n4_
          clear n0_ n1_ n2_ n3_ n4_
          change (Instr.entry (.pointer (some ⟨rb, 0, none⟩))).run Tryd.prog w5 = .ok (.tuple #[.string x, .string u]) w5 at hen
          change wpList _ _ _ _ (Act.put _ _ (.tuple #[.bool true, .string x, .string u])) _
          have zb0 : w5.cell? ⟨gb, 0, none⟩ = some (.string (⟨#[]⟩ : ByteArray)) := (blk_cell BK.out 0).trans rfl
          have zb1 : w5.cell? ⟨gb, 1, none⟩ = some (.string (⟨#[]⟩ : ByteArray)) := (blk_cell BK.out 1).trans rfl
          have zb2 : w5.cell? ⟨gb, 2, none⟩ = some (.string (⟨#[]⟩ : ByteArray)) := (blk_cell BK.out 2).trans rfl
          have zb3 : w5.cell? ⟨gb, 3, none⟩ = some (.string (⟨#[]⟩ : ByteArray)) := (blk_cell BK.out 3).trans rfl
          have zb4 : w5.cell? ⟨gb, 4, none⟩ = some (.slice none 0 0) := (blk_cell BK.out 4).trans rfl
          have zbf0 := blk_frozen BK.out 0
          have zbf1 := blk_frozen BK.out 1
          have zbf2 := blk_frozen BK.out 2
          have zbf3 := blk_frozen BK.out 3
          have zbf4 := blk_frozen BK.out 4
          have zd0 : w5.cell? ⟨g2, 0, none⟩ = some (.string (reqPick hs left (⟨#[58, 109, 101, 116, 104, 111, 100]⟩ : ByteArray))) := (blk_cell BK2.out 0).trans rfl
          have zd1 : w5.cell? ⟨g2, 1, none⟩ = some (.string (reqPick hs left (⟨#[58, 115, 99, 104, 101, 109, 101]⟩ : ByteArray))) := (blk_cell BK2.out 1).trans rfl
          have zd2 : w5.cell? ⟨g2, 2, none⟩ = some (.string (reqPick hs left (⟨#[58, 97, 117, 116, 104, 111, 114, 105, 116, 121]⟩ : ByteArray))) := (blk_cell BK2.out 2).trans rfl
          have zd3 : w5.cell? ⟨g2, 3, none⟩ = some (.string (reqPick hs left (⟨#[58, 112, 97, 116, 104]⟩ : ByteArray))) := (blk_cell BK2.out 3).trans rfl
          have zd4 : w5.cell? ⟨g2, 4, none⟩ = some (.slice Ao rs.length co) := (blk_cell BK2.out 4).trans rfl
          have zdf0 := blk_frozen BK2.out 0
          have zdf1 := blk_frozen BK2.out 1
          have zdf2 := blk_frozen BK2.out 2
          have zdf3 := blk_frozen BK2.out 3
          have zdf4 := blk_frozen BK2.out 4
          rcases reqCases x u with ⟨q0, hfn⟩ | ⟨q0, q1, hfn⟩ | ⟨q0, q1, q2, hfn⟩ | ⟨q0, q1, q2, q3, q4, q5, q6, q7, hfn⟩ | ⟨q0, q1, q2, q3, q4, q5, q6, q7, hfn⟩ | ⟨q0, q1, q2, q3, hfn⟩
          · have HX := Aside0.mk (bytes_of q0)
            have HFN := Aside0.mk hfn
            clear hfn
            go_wp2
            go_roundg c5
            case measure => exact HC.out
            case rel =>
              refine ⟨Go.Proofs.YtkcimmlaoipdkaaDoor.MapF.strike left x, rfl, ⟨HM.out.setCell NS2.out.1 NS2.out.2 _⟩, ⟨blk_far BK.out NE.out _⟩, ⟨?_⟩, ⟨?_⟩, ⟨Kd.R_set HO.out BK2.out (by decide) 0 _⟩, ⟨below_set HB.out GE2.out⟩⟩
              · have e0_ : reqPick hs (Go.Proofs.YtkcimmlaoipdkaaDoor.MapF.strike left x) (⟨#[58, 109, 101, 116, 104, 111, 100]⟩ : ByteArray) = u := pick_same HX.out HF.out
                have e1_ : reqPick hs (Go.Proofs.YtkcimmlaoipdkaaDoor.MapF.strike left x) (⟨#[58, 115, 99, 104, 101, 109, 101]⟩ : ByteArray) = (reqPick hs left (⟨#[58, 115, 99, 104, 101, 109, 101]⟩ : ByteArray)) := pick_other (by rw [HX.out]; decide)
                have e2_ : reqPick hs (Go.Proofs.YtkcimmlaoipdkaaDoor.MapF.strike left x) (⟨#[58, 97, 117, 116, 104, 111, 114, 105, 116, 121]⟩ : ByteArray) = (reqPick hs left (⟨#[58, 97, 117, 116, 104, 111, 114, 105, 116, 121]⟩ : ByteArray)) := pick_other (by rw [HX.out]; decide)
                have e3_ : reqPick hs (Go.Proofs.YtkcimmlaoipdkaaDoor.MapF.strike left x) (⟨#[58, 112, 97, 116, 104]⟩ : ByteArray) = (reqPick hs left (⟨#[58, 112, 97, 116, 104]⟩ : ByteArray)) := pick_other (by rw [HX.out]; decide)
                rw [e0_, e1_, e2_, e3_]
                exact blk_put BK2.out 0 _ rfl
              · intro y hy v hv
                by_cases ey : y = x
                · rw [ey] at hv ⊢
                  rw [HF.out] at hv
                  obtain rfl := Option.some.inj hv
                  exact HFN.out
                · rw [Go.Proofs.YtkcimmlaoipdkaaDoor.MapF.strike_other _ ey] at hy
                  exact FV.out y hy v hv
          · have HX := Aside0.mk (bytes_of q1)
            have HFN := Aside0.mk hfn
            clear hfn
            go_wp2
            go_roundg c5
            case measure => exact HC.out
            case rel =>
              refine ⟨Go.Proofs.YtkcimmlaoipdkaaDoor.MapF.strike left x, rfl, ⟨HM.out.setCell NS2.out.1 NS2.out.2 _⟩, ⟨blk_far BK.out NE.out _⟩, ⟨?_⟩, ⟨?_⟩, ⟨Kd.R_set HO.out BK2.out (by decide) 1 _⟩, ⟨below_set HB.out GE2.out⟩⟩
              · have e0_ : reqPick hs (Go.Proofs.YtkcimmlaoipdkaaDoor.MapF.strike left x) (⟨#[58, 109, 101, 116, 104, 111, 100]⟩ : ByteArray) = (reqPick hs left (⟨#[58, 109, 101, 116, 104, 111, 100]⟩ : ByteArray)) := pick_other (by rw [HX.out]; decide)
                have e1_ : reqPick hs (Go.Proofs.YtkcimmlaoipdkaaDoor.MapF.strike left x) (⟨#[58, 115, 99, 104, 101, 109, 101]⟩ : ByteArray) = u := pick_same HX.out HF.out
                have e2_ : reqPick hs (Go.Proofs.YtkcimmlaoipdkaaDoor.MapF.strike left x) (⟨#[58, 97, 117, 116, 104, 111, 114, 105, 116, 121]⟩ : ByteArray) = (reqPick hs left (⟨#[58, 97, 117, 116, 104, 111, 114, 105, 116, 121]⟩ : ByteArray)) := pick_other (by rw [HX.out]; decide)
                have e3_ : reqPick hs (Go.Proofs.YtkcimmlaoipdkaaDoor.MapF.strike left x) (⟨#[58, 112, 97, 116, 104]⟩ : ByteArray) = (reqPick hs left (⟨#[58, 112, 97, 116, 104]⟩ : ByteArray)) := pick_other (by rw [HX.out]; decide)
                rw [e0_, e1_, e2_, e3_]
                exact blk_put BK2.out 1 _ rfl
              · intro y hy v hv
                by_cases ey : y = x
                · rw [ey] at hv ⊢
                  rw [HF.out] at hv
                  obtain rfl := Option.some.inj hv
                  exact HFN.out
                · rw [Go.Proofs.YtkcimmlaoipdkaaDoor.MapF.strike_other _ ey] at hy
                  exact FV.out y hy v hv
          · have HX := Aside0.mk (bytes_of q2)
            have HFN := Aside0.mk hfn
            clear hfn
            go_wp2
            go_roundg c5
            case measure => exact HC.out
            case rel =>
              refine ⟨Go.Proofs.YtkcimmlaoipdkaaDoor.MapF.strike left x, rfl, ⟨HM.out.setCell NS2.out.1 NS2.out.2 _⟩, ⟨blk_far BK.out NE.out _⟩, ⟨?_⟩, ⟨?_⟩, ⟨Kd.R_set HO.out BK2.out (by decide) 3 _⟩, ⟨below_set HB.out GE2.out⟩⟩
              · have e0_ : reqPick hs (Go.Proofs.YtkcimmlaoipdkaaDoor.MapF.strike left x) (⟨#[58, 109, 101, 116, 104, 111, 100]⟩ : ByteArray) = (reqPick hs left (⟨#[58, 109, 101, 116, 104, 111, 100]⟩ : ByteArray)) := pick_other (by rw [HX.out]; decide)
                have e1_ : reqPick hs (Go.Proofs.YtkcimmlaoipdkaaDoor.MapF.strike left x) (⟨#[58, 115, 99, 104, 101, 109, 101]⟩ : ByteArray) = (reqPick hs left (⟨#[58, 115, 99, 104, 101, 109, 101]⟩ : ByteArray)) := pick_other (by rw [HX.out]; decide)
                have e2_ : reqPick hs (Go.Proofs.YtkcimmlaoipdkaaDoor.MapF.strike left x) (⟨#[58, 97, 117, 116, 104, 111, 114, 105, 116, 121]⟩ : ByteArray) = (reqPick hs left (⟨#[58, 97, 117, 116, 104, 111, 114, 105, 116, 121]⟩ : ByteArray)) := pick_other (by rw [HX.out]; decide)
                have e3_ : reqPick hs (Go.Proofs.YtkcimmlaoipdkaaDoor.MapF.strike left x) (⟨#[58, 112, 97, 116, 104]⟩ : ByteArray) = u := pick_same HX.out HF.out
                rw [e0_, e1_, e2_, e3_]
                exact blk_put BK2.out 3 _ rfl
              · intro y hy v hv
                by_cases ey : y = x
                · rw [ey] at hv ⊢
                  rw [HF.out] at hv
                  obtain rfl := Option.some.inj hv
                  exact HFN.out
                · rw [Go.Proofs.YtkcimmlaoipdkaaDoor.MapF.strike_other _ ey] at hy
                  exact FV.out y hy v hv
          · have HX := Aside0.mk (bytes_of q3)
            have HFN := Aside0.mk hfn
            clear hfn
            go_wp2
            go_roundg c5
            case measure => exact HC.out
            case rel =>
              refine ⟨Go.Proofs.YtkcimmlaoipdkaaDoor.MapF.strike left x, rfl, ⟨HM.out.setCell NS2.out.1 NS2.out.2 _⟩, ⟨blk_far BK.out NE.out _⟩, ⟨?_⟩, ⟨?_⟩, ⟨Kd.R_set HO.out BK2.out (by decide) 2 _⟩, ⟨below_set HB.out GE2.out⟩⟩
              · have e0_ : reqPick hs (Go.Proofs.YtkcimmlaoipdkaaDoor.MapF.strike left x) (⟨#[58, 109, 101, 116, 104, 111, 100]⟩ : ByteArray) = (reqPick hs left (⟨#[58, 109, 101, 116, 104, 111, 100]⟩ : ByteArray)) := pick_other (by rw [HX.out]; decide)
                have e1_ : reqPick hs (Go.Proofs.YtkcimmlaoipdkaaDoor.MapF.strike left x) (⟨#[58, 115, 99, 104, 101, 109, 101]⟩ : ByteArray) = (reqPick hs left (⟨#[58, 115, 99, 104, 101, 109, 101]⟩ : ByteArray)) := pick_other (by rw [HX.out]; decide)
                have e2_ : reqPick hs (Go.Proofs.YtkcimmlaoipdkaaDoor.MapF.strike left x) (⟨#[58, 97, 117, 116, 104, 111, 114, 105, 116, 121]⟩ : ByteArray) = u := pick_same HX.out HF.out
                have e3_ : reqPick hs (Go.Proofs.YtkcimmlaoipdkaaDoor.MapF.strike left x) (⟨#[58, 112, 97, 116, 104]⟩ : ByteArray) = (reqPick hs left (⟨#[58, 112, 97, 116, 104]⟩ : ByteArray)) := pick_other (by rw [HX.out]; decide)
                rw [e0_, e1_, e2_, e3_]
                exact blk_put BK2.out 2 _ rfl
              · intro y hy v hv
                by_cases ey : y = x
                · rw [ey] at hv ⊢
                  rw [HF.out] at hv
                  obtain rfl := Option.some.inj hv
                  exact HFN.out
                · rw [Go.Proofs.YtkcimmlaoipdkaaDoor.MapF.strike_other _ ey] at hy
                  exact FV.out y hy v hv
          · have HR_ := Aside0.mk (reqRest_bad H.out HF.out hfn)
            clear hfn
            obtain ⟨rfl, rfl, rfl, rfl, rfl, rfl⟩ := HR_.out
            have hnb := NE.out
            have hnc := Ne.symm NE.out
            go_wp2
            refine bodyPost_ret (results_ct rfl _ _ gb 44 #[.string (⟨#[]⟩ : ByteArray), .string (⟨#[]⟩ : ByteArray), .string (⟨#[]⟩ : ByteArray), .string (⟨#[]⟩ : ByteArray), .slice none 0 0] (0, 0) _ rfl (by refine blk_put (cs := #[.string (⟨#[]⟩ : ByteArray), .string (⟨#[]⟩ : ByteArray), .string (⟨#[]⟩ : ByteArray), .string (⟨#[]⟩ : ByteArray), .slice none 0 0]) ?_ 4 _ rfl; refine blk_put (cs := #[.string (⟨#[]⟩ : ByteArray), .string (⟨#[]⟩ : ByteArray), .string (⟨#[]⟩ : ByteArray), .string (⟨#[]⟩ : ByteArray), .slice none 0 0]) ?_ 3 _ rfl; refine blk_put (cs := #[.string (⟨#[]⟩ : ByteArray), .string (⟨#[]⟩ : ByteArray), .string (⟨#[]⟩ : ByteArray), .string (⟨#[]⟩ : ByteArray), .slice none 0 0]) ?_ 2 _ rfl; refine blk_put (cs := #[.string (⟨#[]⟩ : ByteArray), .string (⟨#[]⟩ : ByteArray), .string (⟨#[]⟩ : ByteArray), .string (⟨#[]⟩ : ByteArray), .slice none 0 0]) ?_ 1 _ rfl; refine blk_put (cs := #[.string (⟨#[]⟩ : ByteArray), .string (⟨#[]⟩ : ByteArray), .string (⟨#[]⟩ : ByteArray), .string (⟨#[]⟩ : ByteArray), .slice none 0 0]) ?_ 0 _ rfl; (with_reducible repeat (first | refine blk_drewN ?_ _ | refine blk_drew ?_ | refine blk_alloc ?_ _)); exact (blk_far BK.out NE.out _)) Tryd.underlying44 rfl (by kernel_rfl)) rfl ?_
            exact ⟨_, rfl, Kd.R_nil _ _ _ _ _, by with_reducible repeat (first | exact HB.out | apply below_drew1 | apply pw_below_drewN | refine below_set ?_ GE.out | refine below_set ?_ GE2.out)⟩
          · have HR_ := Aside0.mk (reqRest_bad H.out HF.out hfn)
            clear hfn
            obtain ⟨rfl, rfl, rfl, rfl, rfl, rfl⟩ := HR_.out
            have hnb := NE.out
            have hnc := Ne.symm NE.out
            go_wp2
            refine bodyPost_ret (results_ct rfl _ _ gb 44 #[.string (⟨#[]⟩ : ByteArray), .string (⟨#[]⟩ : ByteArray), .string (⟨#[]⟩ : ByteArray), .string (⟨#[]⟩ : ByteArray), .slice none 0 0] (0, 0) _ rfl (by refine blk_put (cs := #[.string (⟨#[]⟩ : ByteArray), .string (⟨#[]⟩ : ByteArray), .string (⟨#[]⟩ : ByteArray), .string (⟨#[]⟩ : ByteArray), .slice none 0 0]) ?_ 4 _ rfl; refine blk_put (cs := #[.string (⟨#[]⟩ : ByteArray), .string (⟨#[]⟩ : ByteArray), .string (⟨#[]⟩ : ByteArray), .string (⟨#[]⟩ : ByteArray), .slice none 0 0]) ?_ 3 _ rfl; refine blk_put (cs := #[.string (⟨#[]⟩ : ByteArray), .string (⟨#[]⟩ : ByteArray), .string (⟨#[]⟩ : ByteArray), .string (⟨#[]⟩ : ByteArray), .slice none 0 0]) ?_ 2 _ rfl; refine blk_put (cs := #[.string (⟨#[]⟩ : ByteArray), .string (⟨#[]⟩ : ByteArray), .string (⟨#[]⟩ : ByteArray), .string (⟨#[]⟩ : ByteArray), .slice none 0 0]) ?_ 1 _ rfl; refine blk_put (cs := #[.string (⟨#[]⟩ : ByteArray), .string (⟨#[]⟩ : ByteArray), .string (⟨#[]⟩ : ByteArray), .string (⟨#[]⟩ : ByteArray), .slice none 0 0]) ?_ 0 _ rfl; (with_reducible repeat (first | refine blk_drewN ?_ _ | refine blk_drew ?_ | refine blk_alloc ?_ _)); exact BK.out) Tryd.underlying44 rfl (by kernel_rfl)) rfl ?_
            exact ⟨_, rfl, Kd.R_nil _ _ _ _ _, by with_reducible repeat (first | exact HB.out | apply below_drew1 | apply pw_below_drewN | refine below_set ?_ GE.out)⟩

end Go.Proofs.YtkcimmlaoipdkaaDoor.PFnExactRequestOf
