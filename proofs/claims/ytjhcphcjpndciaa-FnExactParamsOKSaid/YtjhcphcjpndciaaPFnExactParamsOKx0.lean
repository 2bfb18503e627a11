-- Written by a program of this repo (xprint.py) out of the translation; Lean checks it.
import Derived.Test.YtjhcphcjpndciaaProg
import Derived.Below
import Derived.Deep.Draws
import Derived.Deep.AppendLies
import Derived.Maps.AppendAt
import Derived.OwnWalk
import Derived.Laws.BytesArg
import Derived.Laws.MakeOwn
import Derived.Laws.OwnMore
import Derived.Deep.OwnRows
import Derived.Tactics
import Derived.Lib.ConvBytes
import Derived.Laws.Slices
import Derived.WalkKit
import Derived.KernelRfl
import Derived.RowKit3
import Derived.Deep.LoopGhost
import Derived.Deep.QuietTactic
import Derived.BigQuiet
import Derived.WideLaws
import Derived.Deep.DeepCutAuto
import Derived.Deep.CutBlock
import Derived.Deep.RegionHeld3
import Derived.Laws.Rows
import Derived.Lib.AppendStr
import Derived.ArgAppend
import Derived.Laws.IdiomCopy
import Derived.OrdersHeld
import Derived.Laws.BitsLemmas
import Derived.RowKit
import Derived.StillTailTactics
import Derived.ArgAppend
import Derived.Maps.OwnSet
import Derived.Laws.EntriesVeiled
import Derived.Test.YtjhcphcjpndciaaWWords
import Derived.Test.YtjhcphcjpndciaaWLast
import Derived.Test.YtjhcphcjpndciaaWTab
import Derived.Test.YtjhcphcjpndciaaWFour
import Derived.Test.YtjhcphcjpndciaaWQPut
import Derived.Test.YtjhcphcjpndciaaWApart
import Derived.Test.YtjhcphcjpndciaaWArr
import Derived.Test.YtjhcphcjpndciaaWZeros
import Derived.Test.YtjhcphcjpndciaaWFoot
import Derived.Test.YtjhcphcjpndciaaWKept
import Derived.Test.YtjhcphcjpndciaaWShare
import Derived.Test.YtjhcphcjpndciaaWN
import Derived.Test.YtjhcphcjpndciaaWFootNe
import Derived.Test.YtjhcphcjpndciaaWAt
import Derived.Test.YtjhcphcjpndciaaWEqStruct
import Derived.Test.YtjhcphcjpndciaaWRepsOne
import Derived.Test.YtjhcphcjpndciaaWInv
import Derived.Test.YtjhcphcjpndciaaWInvWords
import Derived.Test.YtjhcphcjpndciaaWGuard
import Derived.Test.YtjhcphcjpndciaaWNEv
import Derived.Test.YtjhcphcjpndciaaWMore
namespace Go.Proofs.Ytjhcphcjpndciaa.PFnExactParamsOK
open Go.RowKit Go.Proofs.YtjhcphcjpndciaaW.PrintWords Go.Proofs.YtjhcphcjpndciaaW.PrintLast Go.Proofs.YtjhcphcjpndciaaW.PrintMore
attribute [local go_sem] max2_int min2_int max_two min_two max_three min_three max_four min_four   -- for this text's walks alone
set_option linter.unusedVariables false
set_option linter.unusedSimpArgs false



def errW : Option Int → Value
  | none => .nilIface
  | some c => .iface 0 (.int .i64 c)
theorem errW_none : errW none = .nilIface := rfl
theorem errW_some (c : Int) : errW (some c) = .iface 0 (.int .i64 c) := rfl

theorem info5 : (Try.prog.info? 5).map (fun i => (i.zero, i.size, i.bytes)) = some (some (.int .u8 0), 1, 1) := by kernel_rfl
-- the values' own types
def rd_L3 (xs : List (List Int)) (i : Int) : (List Int) := xs.getD i.toNat ([] : List Int)
theorem at_L3 {w : World} {A : Option Addr} {n : Nat} {xs : List (List Int)} (h : Kd.C (Kd.slice 5 (Kd.int .u8)) w A n xs) (i : Int) (h0 : 0 ≤ i) (h1 : i < n) : ∃ ad A0 c0, A = some ad ∧ w.cell? (ad.add i.toNat) = some (.slice A0 (rd_L3 xs i).length c0) ∧ (rd_L3 xs i).length ≤ c0 ∧ (Kd.int .u8).C w A0 (rd_L3 xs i).length (rd_L3 xs i) := by
  obtain ⟨ad, c, e, _, hK, hc0⟩ := Kd.C_get h ([] : List Int) i h0 h1
  have hc : ∀ j u, c[j]? = some u → w.cell? (ad.add (i.toNat * 1 + j)) = some u := hc0
  obtain ⟨A0, c0, rfl, l0, g0⟩ := hK
  exact ⟨ad, A0, c0, e, by have hq := hc 0 _ rfl; rwa [Nat.mul_one, Nat.add_zero] at hq, l0, g0⟩

/-! #### struct type 33 -/
structure S33 where
  f0 : Int
  f1 : Int
  f2 : Int
  f3 : Int
  f4 : Int
  f5 : Int
  f6 : Int
  f7 : Int
  f8 : Int
  f9 : Bool
  f10 : (List Int)
  f11 : (List Int)
  f12 : (List Int)
def z33 : S33 := ⟨(0 : Int), (0 : Int), (0 : Int), (0 : Int), (0 : Int), (0 : Int), (0 : Int), (0 : Int), (0 : Int), false, ([] : List Int), ([] : List Int), ([] : List Int)⟩
def k33 : Kd S33 := Kd.iso (Kd.pair (Kd.int .i64) (Kd.pair (Kd.int .i64) (Kd.pair (Kd.int .i64) (Kd.pair (Kd.int .i64) (Kd.pair (Kd.int .i64) (Kd.pair (Kd.int .i64) (Kd.pair (Kd.int .i64) (Kd.pair (Kd.int .i64) (Kd.pair (Kd.int .i64) (Kd.pair Kd.bool (Kd.pair (Kd.slice 5 (Kd.int .u8)) (Kd.pair (Kd.slice 5 (Kd.int .u8)) (Kd.slice 5 (Kd.int .u8)))))))))))))) (fun x : S33 => (x.f0, x.f1, x.f2, x.f3, x.f4, x.f5, x.f6, x.f7, x.f8, x.f9, x.f10, x.f11, x.f12))
theorem k33_open {w : World} {x : S33} {cs : List Value} (h : k33.K w x cs) : ∃ A10 c10 A11 c11 A12 c12, cs = [.int .i64 x.f0, .int .i64 x.f1, .int .i64 x.f2, .int .i64 x.f3, .int .i64 x.f4, .int .i64 x.f5, .int .i64 x.f6, .int .i64 x.f7, .int .i64 x.f8, .bool x.f9, .slice A10 x.f10.length c10, .slice A11 x.f11.length c11, .slice A12 x.f12.length c12] ∧ x.f10.length ≤ c10 ∧ (Kd.int .u8).C w A10 x.f10.length x.f10 ∧ x.f11.length ≤ c11 ∧ (Kd.int .u8).C w A11 x.f11.length x.f11 ∧ x.f12.length ≤ c12 ∧ (Kd.int .u8).C w A12 x.f12.length x.f12 := by
  obtain ⟨_, _, rfl, rfl, ⟨_, _, rfl, rfl, ⟨_, _, rfl, rfl, ⟨_, _, rfl, rfl, ⟨_, _, rfl, rfl, ⟨_, _, rfl, rfl, ⟨_, _, rfl, rfl, ⟨_, _, rfl, rfl, ⟨_, _, rfl, rfl, ⟨_, _, rfl, rfl, ⟨_, _, rfl, ⟨A10, c10, rfl, l10, g10⟩, ⟨_, _, rfl, ⟨A11, c11, rfl, l11, g11⟩, ⟨A12, c12, rfl, l12, g12⟩⟩⟩⟩⟩⟩⟩⟩⟩⟩⟩⟩⟩ := h
  exact ⟨A10, c10, A11, c11, A12, c12, rfl, l10, g10, l11, g11, l12, g12⟩
theorem k33_openM {w : World} {base : Nat} {ok : Nat → Prop} {x : S33} {cs : List Value} (h : k33.M w base ok x cs) : ∃ v10 v11 v12, cs = [.int .i64 x.f0, .int .i64 x.f1, .int .i64 x.f2, .int .i64 x.f3, .int .i64 x.f4, .int .i64 x.f5, .int .i64 x.f6, .int .i64 x.f7, .int .i64 x.f8, .bool x.f9, v10, v11, v12] ∧ (Kd.int .u8).R 5 w base ok v10 x.f10 ∧ (Kd.int .u8).R 5 w base ok v11 x.f11 ∧ (Kd.int .u8).R 5 w base ok v12 x.f12 := by
  obtain ⟨_, _, rfl, rfl, ⟨_, _, rfl, rfl, ⟨_, _, rfl, rfl, ⟨_, _, rfl, rfl, ⟨_, _, rfl, rfl, ⟨_, _, rfl, rfl, ⟨_, _, rfl, rfl, ⟨_, _, rfl, rfl, ⟨_, _, rfl, rfl, ⟨_, _, rfl, rfl, ⟨_, _, rfl, ⟨v10, rfl, g10⟩, ⟨_, _, rfl, ⟨v11, rfl, g11⟩, ⟨v12, rfl, g12⟩⟩⟩⟩⟩⟩⟩⟩⟩⟩⟩⟩⟩ := h
  exact ⟨v10, v11, v12, rfl, g10, g11, g12⟩
theorem k33_mk (w : World) (x : S33) {A10 : Option Addr} {c10 : Nat} (l10 : x.f10.length ≤ c10) (g10 : (Kd.int .u8).C w A10 x.f10.length x.f10) {A11 : Option Addr} {c11 : Nat} (l11 : x.f11.length ≤ c11) (g11 : (Kd.int .u8).C w A11 x.f11.length x.f11) {A12 : Option Addr} {c12 : Nat} (l12 : x.f12.length ≤ c12) (g12 : (Kd.int .u8).C w A12 x.f12.length x.f12) : k33.K w x [.int .i64 x.f0, .int .i64 x.f1, .int .i64 x.f2, .int .i64 x.f3, .int .i64 x.f4, .int .i64 x.f5, .int .i64 x.f6, .int .i64 x.f7, .int .i64 x.f8, .bool x.f9, .slice A10 x.f10.length c10, .slice A11 x.f11.length c11, .slice A12 x.f12.length c12] := ⟨[.int .i64 x.f0], [.int .i64 x.f1, .int .i64 x.f2, .int .i64 x.f3, .int .i64 x.f4, .int .i64 x.f5, .int .i64 x.f6, .int .i64 x.f7, .int .i64 x.f8, .bool x.f9, .slice A10 x.f10.length c10, .slice A11 x.f11.length c11, .slice A12 x.f12.length c12], rfl, rfl, ⟨[.int .i64 x.f1], [.int .i64 x.f2, .int .i64 x.f3, .int .i64 x.f4, .int .i64 x.f5, .int .i64 x.f6, .int .i64 x.f7, .int .i64 x.f8, .bool x.f9, .slice A10 x.f10.length c10, .slice A11 x.f11.length c11, .slice A12 x.f12.length c12], rfl, rfl, ⟨[.int .i64 x.f2], [.int .i64 x.f3, .int .i64 x.f4, .int .i64 x.f5, .int .i64 x.f6, .int .i64 x.f7, .int .i64 x.f8, .bool x.f9, .slice A10 x.f10.length c10, .slice A11 x.f11.length c11, .slice A12 x.f12.length c12], rfl, rfl, ⟨[.int .i64 x.f3], [.int .i64 x.f4, .int .i64 x.f5, .int .i64 x.f6, .int .i64 x.f7, .int .i64 x.f8, .bool x.f9, .slice A10 x.f10.length c10, .slice A11 x.f11.length c11, .slice A12 x.f12.length c12], rfl, rfl, ⟨[.int .i64 x.f4], [.int .i64 x.f5, .int .i64 x.f6, .int .i64 x.f7, .int .i64 x.f8, .bool x.f9, .slice A10 x.f10.length c10, .slice A11 x.f11.length c11, .slice A12 x.f12.length c12], rfl, rfl, ⟨[.int .i64 x.f5], [.int .i64 x.f6, .int .i64 x.f7, .int .i64 x.f8, .bool x.f9, .slice A10 x.f10.length c10, .slice A11 x.f11.length c11, .slice A12 x.f12.length c12], rfl, rfl, ⟨[.int .i64 x.f6], [.int .i64 x.f7, .int .i64 x.f8, .bool x.f9, .slice A10 x.f10.length c10, .slice A11 x.f11.length c11, .slice A12 x.f12.length c12], rfl, rfl, ⟨[.int .i64 x.f7], [.int .i64 x.f8, .bool x.f9, .slice A10 x.f10.length c10, .slice A11 x.f11.length c11, .slice A12 x.f12.length c12], rfl, rfl, ⟨[.int .i64 x.f8], [.bool x.f9, .slice A10 x.f10.length c10, .slice A11 x.f11.length c11, .slice A12 x.f12.length c12], rfl, rfl, ⟨[.bool x.f9], [.slice A10 x.f10.length c10, .slice A11 x.f11.length c11, .slice A12 x.f12.length c12], rfl, rfl, ⟨[.slice A10 x.f10.length c10], [.slice A11 x.f11.length c11, .slice A12 x.f12.length c12], rfl, ⟨A10, c10, rfl, l10, g10⟩, ⟨[.slice A11 x.f11.length c11], [.slice A12 x.f12.length c12], rfl, ⟨A11, c11, rfl, l11, g11⟩, ⟨A12, c12, rfl, l12, g12⟩⟩⟩⟩⟩⟩⟩⟩⟩⟩⟩⟩⟩
theorem k33_mkM (w : World) (base : Nat) (ok : Nat → Prop) (x : S33) {v10 : Value} (g10 : (Kd.int .u8).R 5 w base ok v10 x.f10) {v11 : Value} (g11 : (Kd.int .u8).R 5 w base ok v11 x.f11) {v12 : Value} (g12 : (Kd.int .u8).R 5 w base ok v12 x.f12) : k33.M w base ok x [.int .i64 x.f0, .int .i64 x.f1, .int .i64 x.f2, .int .i64 x.f3, .int .i64 x.f4, .int .i64 x.f5, .int .i64 x.f6, .int .i64 x.f7, .int .i64 x.f8, .bool x.f9, v10, v11, v12] := ⟨[.int .i64 x.f0], [.int .i64 x.f1, .int .i64 x.f2, .int .i64 x.f3, .int .i64 x.f4, .int .i64 x.f5, .int .i64 x.f6, .int .i64 x.f7, .int .i64 x.f8, .bool x.f9, v10, v11, v12], rfl, rfl, ⟨[.int .i64 x.f1], [.int .i64 x.f2, .int .i64 x.f3, .int .i64 x.f4, .int .i64 x.f5, .int .i64 x.f6, .int .i64 x.f7, .int .i64 x.f8, .bool x.f9, v10, v11, v12], rfl, rfl, ⟨[.int .i64 x.f2], [.int .i64 x.f3, .int .i64 x.f4, .int .i64 x.f5, .int .i64 x.f6, .int .i64 x.f7, .int .i64 x.f8, .bool x.f9, v10, v11, v12], rfl, rfl, ⟨[.int .i64 x.f3], [.int .i64 x.f4, .int .i64 x.f5, .int .i64 x.f6, .int .i64 x.f7, .int .i64 x.f8, .bool x.f9, v10, v11, v12], rfl, rfl, ⟨[.int .i64 x.f4], [.int .i64 x.f5, .int .i64 x.f6, .int .i64 x.f7, .int .i64 x.f8, .bool x.f9, v10, v11, v12], rfl, rfl, ⟨[.int .i64 x.f5], [.int .i64 x.f6, .int .i64 x.f7, .int .i64 x.f8, .bool x.f9, v10, v11, v12], rfl, rfl, ⟨[.int .i64 x.f6], [.int .i64 x.f7, .int .i64 x.f8, .bool x.f9, v10, v11, v12], rfl, rfl, ⟨[.int .i64 x.f7], [.int .i64 x.f8, .bool x.f9, v10, v11, v12], rfl, rfl, ⟨[.int .i64 x.f8], [.bool x.f9, v10, v11, v12], rfl, rfl, ⟨[.bool x.f9], [v10, v11, v12], rfl, rfl, ⟨[v10], [v11, v12], rfl, ⟨v10, rfl, g10⟩, ⟨[v11], [v12], rfl, ⟨v11, rfl, g11⟩, ⟨v12, rfl, g12⟩⟩⟩⟩⟩⟩⟩⟩⟩⟩⟩⟩⟩
def rd_T33 (xs : List S33) (i : Int) : S33 := xs.getD i.toNat z33
theorem at_T33 {w : World} {A : Option Addr} {n : Nat} {xs : List S33} (h : Kd.C k33 w A n xs) (i : Int) (h0 : 0 ≤ i) (h1 : i < n) : ∃ ad A10 c10 A11 c11 A12 c12, A = some ad ∧ w.cell? (ad.add (i.toNat * 13)) = some (.int .i64 (rd_T33 xs i).f0) ∧ w.cell? ⟨(ad.add (i.toNat * 13)).block, (ad.add (i.toNat * 13)).off + 1, none⟩ = some (.int .i64 (rd_T33 xs i).f1) ∧ w.cell? ⟨(ad.add (i.toNat * 13)).block, (ad.add (i.toNat * 13)).off + 2, none⟩ = some (.int .i64 (rd_T33 xs i).f2) ∧ w.cell? ⟨(ad.add (i.toNat * 13)).block, (ad.add (i.toNat * 13)).off + 3, none⟩ = some (.int .i64 (rd_T33 xs i).f3) ∧ w.cell? ⟨(ad.add (i.toNat * 13)).block, (ad.add (i.toNat * 13)).off + 4, none⟩ = some (.int .i64 (rd_T33 xs i).f4) ∧ w.cell? ⟨(ad.add (i.toNat * 13)).block, (ad.add (i.toNat * 13)).off + 5, none⟩ = some (.int .i64 (rd_T33 xs i).f5) ∧ w.cell? ⟨(ad.add (i.toNat * 13)).block, (ad.add (i.toNat * 13)).off + 6, none⟩ = some (.int .i64 (rd_T33 xs i).f6) ∧ w.cell? ⟨(ad.add (i.toNat * 13)).block, (ad.add (i.toNat * 13)).off + 7, none⟩ = some (.int .i64 (rd_T33 xs i).f7) ∧ w.cell? ⟨(ad.add (i.toNat * 13)).block, (ad.add (i.toNat * 13)).off + 8, none⟩ = some (.int .i64 (rd_T33 xs i).f8) ∧ w.cell? ⟨(ad.add (i.toNat * 13)).block, (ad.add (i.toNat * 13)).off + 9, none⟩ = some (.bool (rd_T33 xs i).f9) ∧ w.cell? ⟨(ad.add (i.toNat * 13)).block, (ad.add (i.toNat * 13)).off + 10, none⟩ = some (.slice A10 (rd_T33 xs i).f10.length c10) ∧ w.cell? ⟨(ad.add (i.toNat * 13)).block, (ad.add (i.toNat * 13)).off + 11, none⟩ = some (.slice A11 (rd_T33 xs i).f11.length c11) ∧ w.cell? ⟨(ad.add (i.toNat * 13)).block, (ad.add (i.toNat * 13)).off + 12, none⟩ = some (.slice A12 (rd_T33 xs i).f12.length c12) ∧ (rd_T33 xs i).f10.length ≤ c10 ∧ (Kd.int .u8).C w A10 (rd_T33 xs i).f10.length (rd_T33 xs i).f10 ∧ (rd_T33 xs i).f11.length ≤ c11 ∧ (Kd.int .u8).C w A11 (rd_T33 xs i).f11.length (rd_T33 xs i).f11 ∧ (rd_T33 xs i).f12.length ≤ c12 ∧ (Kd.int .u8).C w A12 (rd_T33 xs i).f12.length (rd_T33 xs i).f12 := by
  obtain ⟨ad, c, e, _, hK, hc0⟩ := Kd.C_get h z33 i h0 h1
  have hc : ∀ j u, c[j]? = some u → w.cell? (ad.add (i.toNat * 13 + j)) = some u := hc0
  obtain ⟨A10, c10, A11, c11, A12, c12, rfl, l10, g10, l11, g11, l12, g12⟩ := k33_open hK
  exact ⟨ad, A10, c10, A11, c11, A12, c12, e, hc 0 _ rfl, by rw [← add_field _ _ 1 (by omega)]; exact hc 1 _ rfl, by rw [← add_field _ _ 2 (by omega)]; exact hc 2 _ rfl, by rw [← add_field _ _ 3 (by omega)]; exact hc 3 _ rfl, by rw [← add_field _ _ 4 (by omega)]; exact hc 4 _ rfl, by rw [← add_field _ _ 5 (by omega)]; exact hc 5 _ rfl, by rw [← add_field _ _ 6 (by omega)]; exact hc 6 _ rfl, by rw [← add_field _ _ 7 (by omega)]; exact hc 7 _ rfl, by rw [← add_field _ _ 8 (by omega)]; exact hc 8 _ rfl, by rw [← add_field _ _ 9 (by omega)]; exact hc 9 _ rfl, by rw [← add_field _ _ 10 (by omega)]; exact hc 10 _ rfl, by rw [← add_field _ _ 11 (by omega)]; exact hc 11 _ rfl, by rw [← add_field _ _ 12 (by omega)]; exact hc 12 _ rfl, l10, g10, l11, g11, l12, g12⟩

/-! #### struct type 30 -/
structure S30 where
  f0 : Int
  f1 : Int
  f2 : Int
  f3 : Int
  f4 : Int
  f5 : Int
  f6 : Int
  f7 : Int
  f8 : Int
  f9 : Bool
  f10 : (List Int)
  f11 : (List Int)
  f12 : (List Int)
def z30 : S30 := ⟨(0 : Int), (0 : Int), (0 : Int), (0 : Int), (0 : Int), (0 : Int), (0 : Int), (0 : Int), (0 : Int), false, ([] : List Int), ([] : List Int), ([] : List Int)⟩
def k30 : Kd S30 := Kd.iso (Kd.pair (Kd.int .i64) (Kd.pair (Kd.int .i64) (Kd.pair (Kd.int .i64) (Kd.pair (Kd.int .i64) (Kd.pair (Kd.int .i64) (Kd.pair (Kd.int .i64) (Kd.pair (Kd.int .i64) (Kd.pair (Kd.int .i64) (Kd.pair (Kd.int .i64) (Kd.pair Kd.bool (Kd.pair (Kd.slice 5 (Kd.int .u8)) (Kd.pair (Kd.slice 5 (Kd.int .u8)) (Kd.slice 5 (Kd.int .u8)))))))))))))) (fun x : S30 => (x.f0, x.f1, x.f2, x.f3, x.f4, x.f5, x.f6, x.f7, x.f8, x.f9, x.f10, x.f11, x.f12))
theorem k30_open {w : World} {x : S30} {cs : List Value} (h : k30.K w x cs) : ∃ A10 c10 A11 c11 A12 c12, cs = [.int .i64 x.f0, .int .i64 x.f1, .int .i64 x.f2, .int .i64 x.f3, .int .i64 x.f4, .int .i64 x.f5, .int .i64 x.f6, .int .i64 x.f7, .int .i64 x.f8, .bool x.f9, .slice A10 x.f10.length c10, .slice A11 x.f11.length c11, .slice A12 x.f12.length c12] ∧ x.f10.length ≤ c10 ∧ (Kd.int .u8).C w A10 x.f10.length x.f10 ∧ x.f11.length ≤ c11 ∧ (Kd.int .u8).C w A11 x.f11.length x.f11 ∧ x.f12.length ≤ c12 ∧ (Kd.int .u8).C w A12 x.f12.length x.f12 := by
  obtain ⟨_, _, rfl, rfl, ⟨_, _, rfl, rfl, ⟨_, _, rfl, rfl, ⟨_, _, rfl, rfl, ⟨_, _, rfl, rfl, ⟨_, _, rfl, rfl, ⟨_, _, rfl, rfl, ⟨_, _, rfl, rfl, ⟨_, _, rfl, rfl, ⟨_, _, rfl, rfl, ⟨_, _, rfl, ⟨A10, c10, rfl, l10, g10⟩, ⟨_, _, rfl, ⟨A11, c11, rfl, l11, g11⟩, ⟨A12, c12, rfl, l12, g12⟩⟩⟩⟩⟩⟩⟩⟩⟩⟩⟩⟩⟩ := h
  exact ⟨A10, c10, A11, c11, A12, c12, rfl, l10, g10, l11, g11, l12, g12⟩
theorem k30_openM {w : World} {base : Nat} {ok : Nat → Prop} {x : S30} {cs : List Value} (h : k30.M w base ok x cs) : ∃ v10 v11 v12, cs = [.int .i64 x.f0, .int .i64 x.f1, .int .i64 x.f2, .int .i64 x.f3, .int .i64 x.f4, .int .i64 x.f5, .int .i64 x.f6, .int .i64 x.f7, .int .i64 x.f8, .bool x.f9, v10, v11, v12] ∧ (Kd.int .u8).R 5 w base ok v10 x.f10 ∧ (Kd.int .u8).R 5 w base ok v11 x.f11 ∧ (Kd.int .u8).R 5 w base ok v12 x.f12 := by
  obtain ⟨_, _, rfl, rfl, ⟨_, _, rfl, rfl, ⟨_, _, rfl, rfl, ⟨_, _, rfl, rfl, ⟨_, _, rfl, rfl, ⟨_, _, rfl, rfl, ⟨_, _, rfl, rfl, ⟨_, _, rfl, rfl, ⟨_, _, rfl, rfl, ⟨_, _, rfl, rfl, ⟨_, _, rfl, ⟨v10, rfl, g10⟩, ⟨_, _, rfl, ⟨v11, rfl, g11⟩, ⟨v12, rfl, g12⟩⟩⟩⟩⟩⟩⟩⟩⟩⟩⟩⟩⟩ := h
  exact ⟨v10, v11, v12, rfl, g10, g11, g12⟩
theorem k30_mk (w : World) (x : S30) {A10 : Option Addr} {c10 : Nat} (l10 : x.f10.length ≤ c10) (g10 : (Kd.int .u8).C w A10 x.f10.length x.f10) {A11 : Option Addr} {c11 : Nat} (l11 : x.f11.length ≤ c11) (g11 : (Kd.int .u8).C w A11 x.f11.length x.f11) {A12 : Option Addr} {c12 : Nat} (l12 : x.f12.length ≤ c12) (g12 : (Kd.int .u8).C w A12 x.f12.length x.f12) : k30.K w x [.int .i64 x.f0, .int .i64 x.f1, .int .i64 x.f2, .int .i64 x.f3, .int .i64 x.f4, .int .i64 x.f5, .int .i64 x.f6, .int .i64 x.f7, .int .i64 x.f8, .bool x.f9, .slice A10 x.f10.length c10, .slice A11 x.f11.length c11, .slice A12 x.f12.length c12] := ⟨[.int .i64 x.f0], [.int .i64 x.f1, .int .i64 x.f2, .int .i64 x.f3, .int .i64 x.f4, .int .i64 x.f5, .int .i64 x.f6, .int .i64 x.f7, .int .i64 x.f8, .bool x.f9, .slice A10 x.f10.length c10, .slice A11 x.f11.length c11, .slice A12 x.f12.length c12], rfl, rfl, ⟨[.int .i64 x.f1], [.int .i64 x.f2, .int .i64 x.f3, .int .i64 x.f4, .int .i64 x.f5, .int .i64 x.f6, .int .i64 x.f7, .int .i64 x.f8, .bool x.f9, .slice A10 x.f10.length c10, .slice A11 x.f11.length c11, .slice A12 x.f12.length c12], rfl, rfl, ⟨[.int .i64 x.f2], [.int .i64 x.f3, .int .i64 x.f4, .int .i64 x.f5, .int .i64 x.f6, .int .i64 x.f7, .int .i64 x.f8, .bool x.f9, .slice A10 x.f10.length c10, .slice A11 x.f11.length c11, .slice A12 x.f12.length c12], rfl, rfl, ⟨[.int .i64 x.f3], [.int .i64 x.f4, .int .i64 x.f5, .int .i64 x.f6, .int .i64 x.f7, .int .i64 x.f8, .bool x.f9, .slice A10 x.f10.length c10, .slice A11 x.f11.length c11, .slice A12 x.f12.length c12], rfl, rfl, ⟨[.int .i64 x.f4], [.int .i64 x.f5, .int .i64 x.f6, .int .i64 x.f7, .int .i64 x.f8, .bool x.f9, .slice A10 x.f10.length c10, .slice A11 x.f11.length c11, .slice A12 x.f12.length c12], rfl, rfl, ⟨[.int .i64 x.f5], [.int .i64 x.f6, .int .i64 x.f7, .int .i64 x.f8, .bool x.f9, .slice A10 x.f10.length c10, .slice A11 x.f11.length c11, .slice A12 x.f12.length c12], rfl, rfl, ⟨[.int .i64 x.f6], [.int .i64 x.f7, .int .i64 x.f8, .bool x.f9, .slice A10 x.f10.length c10, .slice A11 x.f11.length c11, .slice A12 x.f12.length c12], rfl, rfl, ⟨[.int .i64 x.f7], [.int .i64 x.f8, .bool x.f9, .slice A10 x.f10.length c10, .slice A11 x.f11.length c11, .slice A12 x.f12.length c12], rfl, rfl, ⟨[.int .i64 x.f8], [.bool x.f9, .slice A10 x.f10.length c10, .slice A11 x.f11.length c11, .slice A12 x.f12.length c12], rfl, rfl, ⟨[.bool x.f9], [.slice A10 x.f10.length c10, .slice A11 x.f11.length c11, .slice A12 x.f12.length c12], rfl, rfl, ⟨[.slice A10 x.f10.length c10], [.slice A11 x.f11.length c11, .slice A12 x.f12.length c12], rfl, ⟨A10, c10, rfl, l10, g10⟩, ⟨[.slice A11 x.f11.length c11], [.slice A12 x.f12.length c12], rfl, ⟨A11, c11, rfl, l11, g11⟩, ⟨A12, c12, rfl, l12, g12⟩⟩⟩⟩⟩⟩⟩⟩⟩⟩⟩⟩⟩
theorem k30_mkM (w : World) (base : Nat) (ok : Nat → Prop) (x : S30) {v10 : Value} (g10 : (Kd.int .u8).R 5 w base ok v10 x.f10) {v11 : Value} (g11 : (Kd.int .u8).R 5 w base ok v11 x.f11) {v12 : Value} (g12 : (Kd.int .u8).R 5 w base ok v12 x.f12) : k30.M w base ok x [.int .i64 x.f0, .int .i64 x.f1, .int .i64 x.f2, .int .i64 x.f3, .int .i64 x.f4, .int .i64 x.f5, .int .i64 x.f6, .int .i64 x.f7, .int .i64 x.f8, .bool x.f9, v10, v11, v12] := ⟨[.int .i64 x.f0], [.int .i64 x.f1, .int .i64 x.f2, .int .i64 x.f3, .int .i64 x.f4, .int .i64 x.f5, .int .i64 x.f6, .int .i64 x.f7, .int .i64 x.f8, .bool x.f9, v10, v11, v12], rfl, rfl, ⟨[.int .i64 x.f1], [.int .i64 x.f2, .int .i64 x.f3, .int .i64 x.f4, .int .i64 x.f5, .int .i64 x.f6, .int .i64 x.f7, .int .i64 x.f8, .bool x.f9, v10, v11, v12], rfl, rfl, ⟨[.int .i64 x.f2], [.int .i64 x.f3, .int .i64 x.f4, .int .i64 x.f5, .int .i64 x.f6, .int .i64 x.f7, .int .i64 x.f8, .bool x.f9, v10, v11, v12], rfl, rfl, ⟨[.int .i64 x.f3], [.int .i64 x.f4, .int .i64 x.f5, .int .i64 x.f6, .int .i64 x.f7, .int .i64 x.f8, .bool x.f9, v10, v11, v12], rfl, rfl, ⟨[.int .i64 x.f4], [.int .i64 x.f5, .int .i64 x.f6, .int .i64 x.f7, .int .i64 x.f8, .bool x.f9, v10, v11, v12], rfl, rfl, ⟨[.int .i64 x.f5], [.int .i64 x.f6, .int .i64 x.f7, .int .i64 x.f8, .bool x.f9, v10, v11, v12], rfl, rfl, ⟨[.int .i64 x.f6], [.int .i64 x.f7, .int .i64 x.f8, .bool x.f9, v10, v11, v12], rfl, rfl, ⟨[.int .i64 x.f7], [.int .i64 x.f8, .bool x.f9, v10, v11, v12], rfl, rfl, ⟨[.int .i64 x.f8], [.bool x.f9, v10, v11, v12], rfl, rfl, ⟨[.bool x.f9], [v10, v11, v12], rfl, rfl, ⟨[v10], [v11, v12], rfl, ⟨v10, rfl, g10⟩, ⟨[v11], [v12], rfl, ⟨v11, rfl, g11⟩, ⟨v12, rfl, g12⟩⟩⟩⟩⟩⟩⟩⟩⟩⟩⟩⟩⟩
def rd_T30 (xs : List S30) (i : Int) : S30 := xs.getD i.toNat z30
theorem at_T30 {w : World} {A : Option Addr} {n : Nat} {xs : List S30} (h : Kd.C k30 w A n xs) (i : Int) (h0 : 0 ≤ i) (h1 : i < n) : ∃ ad A10 c10 A11 c11 A12 c12, A = some ad ∧ w.cell? (ad.add (i.toNat * 13)) = some (.int .i64 (rd_T30 xs i).f0) ∧ w.cell? ⟨(ad.add (i.toNat * 13)).block, (ad.add (i.toNat * 13)).off + 1, none⟩ = some (.int .i64 (rd_T30 xs i).f1) ∧ w.cell? ⟨(ad.add (i.toNat * 13)).block, (ad.add (i.toNat * 13)).off + 2, none⟩ = some (.int .i64 (rd_T30 xs i).f2) ∧ w.cell? ⟨(ad.add (i.toNat * 13)).block, (ad.add (i.toNat * 13)).off + 3, none⟩ = some (.int .i64 (rd_T30 xs i).f3) ∧ w.cell? ⟨(ad.add (i.toNat * 13)).block, (ad.add (i.toNat * 13)).off + 4, none⟩ = some (.int .i64 (rd_T30 xs i).f4) ∧ w.cell? ⟨(ad.add (i.toNat * 13)).block, (ad.add (i.toNat * 13)).off + 5, none⟩ = some (.int .i64 (rd_T30 xs i).f5) ∧ w.cell? ⟨(ad.add (i.toNat * 13)).block, (ad.add (i.toNat * 13)).off + 6, none⟩ = some (.int .i64 (rd_T30 xs i).f6) ∧ w.cell? ⟨(ad.add (i.toNat * 13)).block, (ad.add (i.toNat * 13)).off + 7, none⟩ = some (.int .i64 (rd_T30 xs i).f7) ∧ w.cell? ⟨(ad.add (i.toNat * 13)).block, (ad.add (i.toNat * 13)).off + 8, none⟩ = some (.int .i64 (rd_T30 xs i).f8) ∧ w.cell? ⟨(ad.add (i.toNat * 13)).block, (ad.add (i.toNat * 13)).off + 9, none⟩ = some (.bool (rd_T30 xs i).f9) ∧ w.cell? ⟨(ad.add (i.toNat * 13)).block, (ad.add (i.toNat * 13)).off + 10, none⟩ = some (.slice A10 (rd_T30 xs i).f10.length c10) ∧ w.cell? ⟨(ad.add (i.toNat * 13)).block, (ad.add (i.toNat * 13)).off + 11, none⟩ = some (.slice A11 (rd_T30 xs i).f11.length c11) ∧ w.cell? ⟨(ad.add (i.toNat * 13)).block, (ad.add (i.toNat * 13)).off + 12, none⟩ = some (.slice A12 (rd_T30 xs i).f12.length c12) ∧ (rd_T30 xs i).f10.length ≤ c10 ∧ (Kd.int .u8).C w A10 (rd_T30 xs i).f10.length (rd_T30 xs i).f10 ∧ (rd_T30 xs i).f11.length ≤ c11 ∧ (Kd.int .u8).C w A11 (rd_T30 xs i).f11.length (rd_T30 xs i).f11 ∧ (rd_T30 xs i).f12.length ≤ c12 ∧ (Kd.int .u8).C w A12 (rd_T30 xs i).f12.length (rd_T30 xs i).f12 := by
  obtain ⟨ad, c, e, _, hK, hc0⟩ := Kd.C_get h z30 i h0 h1
  have hc : ∀ j u, c[j]? = some u → w.cell? (ad.add (i.toNat * 13 + j)) = some u := hc0
  obtain ⟨A10, c10, A11, c11, A12, c12, rfl, l10, g10, l11, g11, l12, g12⟩ := k30_open hK
  exact ⟨ad, A10, c10, A11, c11, A12, c12, e, hc 0 _ rfl, by rw [← add_field _ _ 1 (by omega)]; exact hc 1 _ rfl, by rw [← add_field _ _ 2 (by omega)]; exact hc 2 _ rfl, by rw [← add_field _ _ 3 (by omega)]; exact hc 3 _ rfl, by rw [← add_field _ _ 4 (by omega)]; exact hc 4 _ rfl, by rw [← add_field _ _ 5 (by omega)]; exact hc 5 _ rfl, by rw [← add_field _ _ 6 (by omega)]; exact hc 6 _ rfl, by rw [← add_field _ _ 7 (by omega)]; exact hc 7 _ rfl, by rw [← add_field _ _ 8 (by omega)]; exact hc 8 _ rfl, by rw [← add_field _ _ 9 (by omega)]; exact hc 9 _ rfl, by rw [← add_field _ _ 10 (by omega)]; exact hc 10 _ rfl, by rw [← add_field _ _ 11 (by omega)]; exact hc 11 _ rfl, by rw [← add_field _ _ 12 (by omega)]; exact hc 12 _ rfl, l10, g10, l11, g11, l12, g12⟩

end Go.Proofs.Ytjhcphcjpndciaa.PFnExactParamsOK
