/-
  No cell of these rows narrows 'for every input' (looked for: loops, veiled, ifaces, maps, wideKeys, modest, calm, conditions, laid).
  DERIVED. THE GIVEN ROWS OF THIS SEAT. 10 by the template 'for every input the law returns true; each argument reads behind the call as it read before'; 0 by the template 'total and deterministic' (their statements: YtkloeccbhjngiaaTotals.lean).
  GIVEN WITH THE SEED: the statements are not yours to turn. If you find one false, say at which input.
  Laid BY PROGRAM, IN A SANDBOX (cutbox-rows.mjs): the forced cells as the released guide's own fill.sh prints them over the translation 956910baef1f0ef4… (all of the seat's roots in one cut). By AI agents, Wed Nov 11 2026. No macro, syntax, notation, axiom, sorry.
-/
import Derived.Test.YtkloeccbhjngiaaChecked
import GoSem.Claim
import GoSem.ClaimJoined
import GoSem.ClaimMapViews
import Derived.JoinedTies
import Derived.KernelRfl
namespace Go.Proofs.Ytkloeccbhjngiaa
/- THE CELL 'sum', in the pinned program and in every row, IS THE sha256 OF THE DUMP (.gsa) THAT YtkloeccbhjngiaaProg.lean LOADS. Nothing in Lean hashes anything: it is a label: what it is worth is what the hold of that sum in a sandbox is worth. -/
noncomputable def Try.pinned : Pinned := { name := "ytkloeccbhjngiaa", sum := "956910baef1f0ef4a134541fb8a89100a68274a66d901ecdb13b6cce48536594", checked := Try.checked }
namespace Rows
def none {H : Type} : Left H := { results := [], args := [] }

/-- 'laws.FnExactReadHyper': WHATEVER THE INPUT: true; the input reads as it did. -/
def fnExactReadHyperSpec : ChangeSpec := { name := "fnExactReadHyper", fn := fun _ => fun
  | [d1, d2] => { results := [.lit (.bool true)], args := [d1, d2] }
  | _ => none }
def fnExactReadHyperRow : OpenClaim := { program := "ytkloeccbhjngiaa", sum := "956910baef1f0ef4a134541fb8a89100a68274a66d901ecdb13b6cce48536594", func := "loop.example/g00012/laws.FnExactReadHyper", spec := "fnExactReadHyper", apart := false }
def FnExactReadHyperSaid : Prop := fnExactReadHyperRow.holds Try.pinned (OpenSpec.ofChange fnExactReadHyperSpec)

/-- ITS FALSE NEIGHBOUR: 'it returns false'. Refute it at one input. -/
def fnExactReadHyperWrong : ChangeSpec := { name := "fnExactReadHyper", fn := fun _ => fun
  | [d1, d2] => { results := [.lit (.bool false)], args := [d1, d2] }
  | _ => none }
def FnExactReadHyperWrongFalsely : Prop := fnExactReadHyperRow.holds Try.pinned (OpenSpec.ofChange fnExactReadHyperWrong)

/-- 'laws.FnHyper': WHATEVER THE INPUT: true; the input reads as it did. -/
def fnHyperSpec : ChangeSpec := { name := "fnHyper", fn := fun _ => fun
  | [d] => { results := [.lit (.bool true)], args := [d] }
  | _ => none }
def fnHyperRow : OpenClaim := { program := "ytkloeccbhjngiaa", sum := "956910baef1f0ef4a134541fb8a89100a68274a66d901ecdb13b6cce48536594", func := "loop.example/g00012/laws.FnHyper", spec := "fnHyper", recurses := true, apart := false }
def FnHyperSaid : Prop := fnHyperRow.holds Try.pinned (OpenSpec.ofChange fnHyperSpec)

/-- ITS FALSE NEIGHBOUR: 'it returns false'. Refute it at one input. -/
def fnHyperWrong : ChangeSpec := { name := "fnHyper", fn := fun _ => fun
  | [d] => { results := [.lit (.bool false)], args := [d] }
  | _ => none }
def FnHyperWrongFalsely : Prop := fnHyperRow.holds Try.pinned (OpenSpec.ofChange fnHyperWrong)

/-- 'laws.FnExactReadVersions': WHATEVER THE INPUT: true; the input reads as it did. -/
def fnExactReadVersionsSpec : ChangeSpec := { name := "fnExactReadVersions", fn := fun _ => fun
  | [d] => { results := [.lit (.bool true)], args := [d] }
  | _ => none }
def fnExactReadVersionsRow : OpenClaim := { program := "ytkloeccbhjngiaa", sum := "956910baef1f0ef4a134541fb8a89100a68274a66d901ecdb13b6cce48536594", func := "loop.example/g00012/laws.FnExactReadVersions", spec := "fnExactReadVersions", apart := false }
def FnExactReadVersionsSaid : Prop := fnExactReadVersionsRow.holds Try.pinned (OpenSpec.ofChange fnExactReadVersionsSpec)

/-- ITS FALSE NEIGHBOUR: 'it returns false'. Refute it at one input. -/
def fnExactReadVersionsWrong : ChangeSpec := { name := "fnExactReadVersions", fn := fun _ => fun
  | [d] => { results := [.lit (.bool false)], args := [d] }
  | _ => none }
def FnExactReadVersionsWrongFalsely : Prop := fnExactReadVersionsRow.holds Try.pinned (OpenSpec.ofChange fnExactReadVersionsWrong)

/-- 'laws.FnExactRecvRun': WHATEVER THE INPUT: true; the input reads as it did. -/
def fnExactRecvRunSpec : ChangeSpec := { name := "fnExactRecvRun", fn := fun _ => fun
  | [d1, d2] => { results := [.lit (.bool true)], args := [d1, d2] }
  | _ => none }
def fnExactRecvRunRow : OpenClaim := { program := "ytkloeccbhjngiaa", sum := "956910baef1f0ef4a134541fb8a89100a68274a66d901ecdb13b6cce48536594", func := "loop.example/g00012/laws.FnExactRecvRun", spec := "fnExactRecvRun", apart := false }
def FnExactRecvRunSaid : Prop := fnExactRecvRunRow.holds Try.pinned (OpenSpec.ofChange fnExactRecvRunSpec)

/-- ITS FALSE NEIGHBOUR: 'it returns false'. Refute it at one input. -/
def fnExactRecvRunWrong : ChangeSpec := { name := "fnExactRecvRun", fn := fun _ => fun
  | [d1, d2] => { results := [.lit (.bool false)], args := [d1, d2] }
  | _ => none }
def FnExactRecvRunWrongFalsely : Prop := fnExactRecvRunRow.holds Try.pinned (OpenSpec.ofChange fnExactRecvRunWrong)

/-- 'laws.FnRecvPrefix': WHATEVER THE INPUT: true; the input reads as it did. -/
def fnRecvPrefixSpec : ChangeSpec := { name := "fnRecvPrefix", fn := fun _ => fun
  | [d1, d2] => { results := [.lit (.bool true)], args := [d1, d2] }
  | _ => none }
def fnRecvPrefixRow : OpenClaim := { program := "ytkloeccbhjngiaa", sum := "956910baef1f0ef4a134541fb8a89100a68274a66d901ecdb13b6cce48536594", func := "loop.example/g00012/laws.FnRecvPrefix", spec := "fnRecvPrefix", apart := false }
def FnRecvPrefixSaid : Prop := fnRecvPrefixRow.holds Try.pinned (OpenSpec.ofChange fnRecvPrefixSpec)

/-- ITS FALSE NEIGHBOUR: 'it returns false'. Refute it at one input. -/
def fnRecvPrefixWrong : ChangeSpec := { name := "fnRecvPrefix", fn := fun _ => fun
  | [d1, d2] => { results := [.lit (.bool false)], args := [d1, d2] }
  | _ => none }
def FnRecvPrefixWrongFalsely : Prop := fnRecvPrefixRow.holds Try.pinned (OpenSpec.ofChange fnRecvPrefixWrong)

/-- 'laws.FnPipe': WHATEVER THE INPUT: true; the input reads as it did. -/
def fnPipeSpec : ChangeSpec := { name := "fnPipe", fn := fun _ => fun
  | [d1, d2] => { results := [.lit (.bool true)], args := [d1, d2] }
  | _ => none }
def fnPipeRow : OpenClaim := { program := "ytkloeccbhjngiaa", sum := "956910baef1f0ef4a134541fb8a89100a68274a66d901ecdb13b6cce48536594", func := "loop.example/g00012/laws.FnPipe", spec := "fnPipe", unfollowed := true, recurses := true, apart := false }
def FnPipeSaid : Prop := fnPipeRow.holds Try.pinned (OpenSpec.ofChange fnPipeSpec)

/-- ITS FALSE NEIGHBOUR: 'it returns false'. Refute it at one input. -/
def fnPipeWrong : ChangeSpec := { name := "fnPipe", fn := fun _ => fun
  | [d1, d2] => { results := [.lit (.bool false)], args := [d1, d2] }
  | _ => none }
def FnPipeWrongFalsely : Prop := fnPipeRow.holds Try.pinned (OpenSpec.ofChange fnPipeWrong)

/-- 'laws.FnExactPathRun': WHATEVER THE INPUT: true; the input reads as it did. -/
def fnExactPathRunSpec : ChangeSpec := { name := "fnExactPathRun", fn := fun _ => fun
  | [d1, d2] => { results := [.lit (.bool true)], args := [d1, d2] }
  | _ => none }
def fnExactPathRunRow : OpenClaim := { program := "ytkloeccbhjngiaa", sum := "956910baef1f0ef4a134541fb8a89100a68274a66d901ecdb13b6cce48536594", func := "loop.example/g00012/laws.FnExactPathRun", spec := "fnExactPathRun", unfollowed := true, recurses := true, apart := false }
def FnExactPathRunSaid : Prop := fnExactPathRunRow.holds Try.pinned (OpenSpec.ofChange fnExactPathRunSpec)

/-- ITS FALSE NEIGHBOUR: 'it returns false'. Refute it at one input. -/
def fnExactPathRunWrong : ChangeSpec := { name := "fnExactPathRun", fn := fun _ => fun
  | [d1, d2] => { results := [.lit (.bool false)], args := [d1, d2] }
  | _ => none }
def FnExactPathRunWrongFalsely : Prop := fnExactPathRunRow.holds Try.pinned (OpenSpec.ofChange fnExactPathRunWrong)

/-- 'laws.FnPaths': WHATEVER THE INPUT: true; the input reads as it did. -/
def fnPathsSpec : ChangeSpec := { name := "fnPaths", fn := fun _ => fun
  | [d] => { results := [.lit (.bool true)], args := [d] }
  | _ => none }
def fnPathsRow : OpenClaim := { program := "ytkloeccbhjngiaa", sum := "956910baef1f0ef4a134541fb8a89100a68274a66d901ecdb13b6cce48536594", func := "loop.example/g00012/laws.FnPaths", spec := "fnPaths", unfollowed := true, recurses := true, apart := false }
def FnPathsSaid : Prop := fnPathsRow.holds Try.pinned (OpenSpec.ofChange fnPathsSpec)

/-- ITS FALSE NEIGHBOUR: 'it returns false'. Refute it at one input. -/
def fnPathsWrong : ChangeSpec := { name := "fnPaths", fn := fun _ => fun
  | [d] => { results := [.lit (.bool false)], args := [d] }
  | _ => none }
def FnPathsWrongFalsely : Prop := fnPathsRow.holds Try.pinned (OpenSpec.ofChange fnPathsWrong)

/-- 'laws.FnExactParamsBytes': WHATEVER THE INPUT: true; the input reads as it did. -/
def fnExactParamsBytesSpec : ChangeSpec := { name := "fnExactParamsBytes", fn := fun _ => fun
  | [d1, d2] => { results := [.lit (.bool true)], args := [d1, d2] }
  | _ => none }
def fnExactParamsBytesRow : OpenClaim := { program := "ytkloeccbhjngiaa", sum := "956910baef1f0ef4a134541fb8a89100a68274a66d901ecdb13b6cce48536594", func := "loop.example/g00012/laws.FnExactParamsBytes", spec := "fnExactParamsBytes", unfollowed := true, recurses := true, apart := false }
def FnExactParamsBytesSaid : Prop := fnExactParamsBytesRow.holds Try.pinned (OpenSpec.ofChange fnExactParamsBytesSpec)

/-- ITS FALSE NEIGHBOUR: 'it returns false'. Refute it at one input. -/
def fnExactParamsBytesWrong : ChangeSpec := { name := "fnExactParamsBytes", fn := fun _ => fun
  | [d1, d2] => { results := [.lit (.bool false)], args := [d1, d2] }
  | _ => none }
def FnExactParamsBytesWrongFalsely : Prop := fnExactParamsBytesRow.holds Try.pinned (OpenSpec.ofChange fnExactParamsBytesWrong)

/-- 'laws.FnExactReadAcks': WHATEVER THE INPUT: true; the input reads as it did. -/
def fnExactReadAcksSpec : ChangeSpec := { name := "fnExactReadAcks", fn := fun _ => fun
  | [d1, d2] => { results := [.lit (.bool true)], args := [d1, d2] }
  | _ => none }
def fnExactReadAcksRow : OpenClaim := { program := "ytkloeccbhjngiaa", sum := "956910baef1f0ef4a134541fb8a89100a68274a66d901ecdb13b6cce48536594", func := "loop.example/g00012/laws.FnExactReadAcks", spec := "fnExactReadAcks", inPlace := ["internal/bytealg.IndexByteString", "internal/bytealg.IndexString"], unfollowed := true, recurses := true, named := ["internal/bytealg.MaxLen"], apart := false }
def FnExactReadAcksSaid : Prop := fnExactReadAcksRow.holds Try.pinned (OpenSpec.ofChange fnExactReadAcksSpec)

/-- ITS FALSE NEIGHBOUR: 'it returns false'. Refute it at one input. -/
def fnExactReadAcksWrong : ChangeSpec := { name := "fnExactReadAcks", fn := fun _ => fun
  | [d1, d2] => { results := [.lit (.bool false)], args := [d1, d2] }
  | _ => none }
def FnExactReadAcksWrongFalsely : Prop := fnExactReadAcksRow.holds Try.pinned (OpenSpec.ofChange fnExactReadAcksWrong)

/- THE SECOND FORM. 'bulk': how many values and letters a reading holds, each counted each time it is reached (what is shared counts as often as it is met; a slice's spare places count too). A statement '..UptoSaid' is the law's where the arguments, and the package variables that the reading takes, are together of bulk at most 1048576: NARROWER than '..Said'. Prove '..Said' where nothing that the law and all that it calls make is longer than what came in: it says more and counts as full. Else prove '..UptoSaid'. A law counts once. -/
mutual
def uptoBulk {H : Type} : DataW H → Nat
  | .lit (.string bytes) => bytes.length + 1
  | .lit _ => 1
  | .nil => 1
  | .ptr d => uptoBulk d + 1
  | .slice elems spare => uptoBulkAll elems + uptoBulkAll spare + 1
  | .agg parts => uptoBulkAll parts + 1
  | .iface _ d => uptoBulk d + 1
  | .map entries => uptoBulkEntries entries + 1
  | .held _ => 1
def uptoBulkAll {H : Type} : List (DataW H) → Nat
  | [] => 0
  | d :: r => uptoBulk d + uptoBulkAll r
def uptoBulkEntries {H : Type} : List (Lit × DataW H) → Nat
  | [] => 0
  | x :: r => uptoBulkEntry x + uptoBulkEntries r
def uptoBulkEntry {H : Type} : Lit × DataW H → Nat
  | (.string bytes, d) => bytes.length + uptoBulk d + 1
  | (_, d) => uptoBulk d + 1
 end
def uptoSmall : (H : Type) → List (DataW H) → Bool := fun _ ds => decide (uptoBulkAll ds ≤ 1048576)
def OpenSpec.upto (s : _root_.Go.ChangeSpec) : _root_.Go.OpenSpec := { _root_.Go.OpenSpec.ofChange s with cond := some uptoSmall }

/-- 'laws.FnExactReadHyper', WHERE WHAT IT READS IS OF BULK AT MOST 1048576: true; the input reads as it did. -/
def fnExactReadHyperUptoRow : OpenClaim := { program := "ytkloeccbhjngiaa", sum := "956910baef1f0ef4a134541fb8a89100a68274a66d901ecdb13b6cce48536594", func := "loop.example/g00012/laws.FnExactReadHyper", spec := "fnExactReadHyper", apart := false, narrowed := true }
def FnExactReadHyperUptoSaid : Prop := fnExactReadHyperUptoRow.holds Try.pinned (OpenSpec.upto fnExactReadHyperSpec)

/-- 'laws.FnHyper', WHERE WHAT IT READS IS OF BULK AT MOST 1048576: true; the input reads as it did. -/
def fnHyperUptoRow : OpenClaim := { program := "ytkloeccbhjngiaa", sum := "956910baef1f0ef4a134541fb8a89100a68274a66d901ecdb13b6cce48536594", func := "loop.example/g00012/laws.FnHyper", spec := "fnHyper", recurses := true, apart := false, narrowed := true }
def FnHyperUptoSaid : Prop := fnHyperUptoRow.holds Try.pinned (OpenSpec.upto fnHyperSpec)

/-- 'laws.FnExactReadVersions', WHERE WHAT IT READS IS OF BULK AT MOST 1048576: true; the input reads as it did. -/
def fnExactReadVersionsUptoRow : OpenClaim := { program := "ytkloeccbhjngiaa", sum := "956910baef1f0ef4a134541fb8a89100a68274a66d901ecdb13b6cce48536594", func := "loop.example/g00012/laws.FnExactReadVersions", spec := "fnExactReadVersions", apart := false, narrowed := true }
def FnExactReadVersionsUptoSaid : Prop := fnExactReadVersionsUptoRow.holds Try.pinned (OpenSpec.upto fnExactReadVersionsSpec)

/-- 'laws.FnExactRecvRun', WHERE WHAT IT READS IS OF BULK AT MOST 1048576: true; the input reads as it did. -/
def fnExactRecvRunUptoRow : OpenClaim := { program := "ytkloeccbhjngiaa", sum := "956910baef1f0ef4a134541fb8a89100a68274a66d901ecdb13b6cce48536594", func := "loop.example/g00012/laws.FnExactRecvRun", spec := "fnExactRecvRun", apart := false, narrowed := true }
def FnExactRecvRunUptoSaid : Prop := fnExactRecvRunUptoRow.holds Try.pinned (OpenSpec.upto fnExactRecvRunSpec)

/-- 'laws.FnRecvPrefix', WHERE WHAT IT READS IS OF BULK AT MOST 1048576: true; the input reads as it did. -/
def fnRecvPrefixUptoRow : OpenClaim := { program := "ytkloeccbhjngiaa", sum := "956910baef1f0ef4a134541fb8a89100a68274a66d901ecdb13b6cce48536594", func := "loop.example/g00012/laws.FnRecvPrefix", spec := "fnRecvPrefix", apart := false, narrowed := true }
def FnRecvPrefixUptoSaid : Prop := fnRecvPrefixUptoRow.holds Try.pinned (OpenSpec.upto fnRecvPrefixSpec)

/-- 'laws.FnPipe', WHERE WHAT IT READS IS OF BULK AT MOST 1048576: true; the input reads as it did. -/
def fnPipeUptoRow : OpenClaim := { program := "ytkloeccbhjngiaa", sum := "956910baef1f0ef4a134541fb8a89100a68274a66d901ecdb13b6cce48536594", func := "loop.example/g00012/laws.FnPipe", spec := "fnPipe", unfollowed := true, recurses := true, apart := false, narrowed := true }
def FnPipeUptoSaid : Prop := fnPipeUptoRow.holds Try.pinned (OpenSpec.upto fnPipeSpec)

/-- 'laws.FnExactPathRun', WHERE WHAT IT READS IS OF BULK AT MOST 1048576: true; the input reads as it did. -/
def fnExactPathRunUptoRow : OpenClaim := { program := "ytkloeccbhjngiaa", sum := "956910baef1f0ef4a134541fb8a89100a68274a66d901ecdb13b6cce48536594", func := "loop.example/g00012/laws.FnExactPathRun", spec := "fnExactPathRun", unfollowed := true, recurses := true, apart := false, narrowed := true }
def FnExactPathRunUptoSaid : Prop := fnExactPathRunUptoRow.holds Try.pinned (OpenSpec.upto fnExactPathRunSpec)

/-- 'laws.FnPaths', WHERE WHAT IT READS IS OF BULK AT MOST 1048576: true; the input reads as it did. -/
def fnPathsUptoRow : OpenClaim := { program := "ytkloeccbhjngiaa", sum := "956910baef1f0ef4a134541fb8a89100a68274a66d901ecdb13b6cce48536594", func := "loop.example/g00012/laws.FnPaths", spec := "fnPaths", unfollowed := true, recurses := true, apart := false, narrowed := true }
def FnPathsUptoSaid : Prop := fnPathsUptoRow.holds Try.pinned (OpenSpec.upto fnPathsSpec)

/-- 'laws.FnExactParamsBytes', WHERE WHAT IT READS IS OF BULK AT MOST 1048576: true; the input reads as it did. -/
def fnExactParamsBytesUptoRow : OpenClaim := { program := "ytkloeccbhjngiaa", sum := "956910baef1f0ef4a134541fb8a89100a68274a66d901ecdb13b6cce48536594", func := "loop.example/g00012/laws.FnExactParamsBytes", spec := "fnExactParamsBytes", unfollowed := true, recurses := true, apart := false, narrowed := true }
def FnExactParamsBytesUptoSaid : Prop := fnExactParamsBytesUptoRow.holds Try.pinned (OpenSpec.upto fnExactParamsBytesSpec)

/-- 'laws.FnExactReadAcks', WHERE WHAT IT READS IS OF BULK AT MOST 1048576: true; the input reads as it did. -/
def fnExactReadAcksUptoRow : OpenClaim := { program := "ytkloeccbhjngiaa", sum := "956910baef1f0ef4a134541fb8a89100a68274a66d901ecdb13b6cce48536594", func := "loop.example/g00012/laws.FnExactReadAcks", spec := "fnExactReadAcks", inPlace := ["internal/bytealg.IndexByteString", "internal/bytealg.IndexString"], unfollowed := true, recurses := true, named := ["internal/bytealg.MaxLen"], apart := false, narrowed := true }
def FnExactReadAcksUptoSaid : Prop := fnExactReadAcksUptoRow.holds Try.pinned (OpenSpec.upto fnExactReadAcksSpec)

end Rows
end Go.Proofs.Ytkloeccbhjngiaa
