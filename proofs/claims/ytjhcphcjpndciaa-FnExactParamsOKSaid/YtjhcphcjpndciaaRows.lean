/-
  No cell of these rows narrows 'for every input' (looked for: loops, veiled, ifaces, maps, wideKeys, modest, calm, conditions, laid).
  DERIVED. THE GIVEN ROWS OF THIS SEAT. 12 by the template 'for every input the law returns true; each argument reads behind the call as it read before'; 0 by the template 'total and deterministic' (their statements: YtjhcphcjpndciaaTotals.lean).
  GIVEN WITH THE SEED: the statements are not yours to turn. If you find one false, say at which input.
  Laid BY PROGRAM, IN A SANDBOX (cutbox-rows.mjs): the forced cells as the released guide's own fill.sh prints them over the translation b843cd3094f41cfa… (all of the seat's roots in one cut). By AI agents, Wed Nov 11 2026. No macro, syntax, notation, axiom, sorry.
-/
import Derived.Test.YtjhcphcjpndciaaChecked
import GoSem.Claim
import GoSem.ClaimJoined
import GoSem.ClaimMapViews
import Derived.JoinedTies
import Derived.KernelRfl
namespace Go.Proofs.Ytjhcphcjpndciaa
/- THE CELL 'sum', in the pinned program and in every row, IS THE sha256 OF THE DUMP (.gsa) THAT YtjhcphcjpndciaaProg.lean LOADS. Nothing in Lean hashes anything: it is a label: what it is worth is what the hold of that sum in a sandbox is worth. -/
noncomputable def Try.pinned : Pinned := { name := "ytjhcphcjpndciaa", sum := "b843cd3094f41cfa10279c2fb6d2f44eb1c60532c74a45884cade4d10e23ceb3", checked := Try.checked }
namespace Rows
def none {H : Type} : Left H := { results := [], args := [] }

/-- 'laws.FnExactStaticField': WHATEVER THE INPUT: true; the input reads as it did. -/
def fnExactStaticFieldSpec : ChangeSpec := { name := "fnExactStaticField", fn := fun _ => fun
  | [d] => { results := [.lit (.bool true)], args := [d] }
  | _ => none }
def fnExactStaticFieldRow : OpenClaim := { program := "ytjhcphcjpndciaa", sum := "b843cd3094f41cfa10279c2fb6d2f44eb1c60532c74a45884cade4d10e23ceb3", func := "loop.example/g00012/laws.FnExactStaticField", spec := "fnExactStaticField", apart := false }
def FnExactStaticFieldSaid : Prop := fnExactStaticFieldRow.holds Try.pinned (OpenSpec.ofChange fnExactStaticFieldSpec)

/-- ITS FALSE NEIGHBOUR: 'it returns false'. Refute it at one input. -/
def fnExactStaticFieldWrong : ChangeSpec := { name := "fnExactStaticField", fn := fun _ => fun
  | [d] => { results := [.lit (.bool false)], args := [d] }
  | _ => none }
def FnExactStaticFieldWrongFalsely : Prop := fnExactStaticFieldRow.holds Try.pinned (OpenSpec.ofChange fnExactStaticFieldWrong)

/-- 'laws.FnExactParamsOK': WHATEVER THE INPUT: true; the input reads as it did. -/
def fnExactParamsOKSpec : ChangeSpec := { name := "fnExactParamsOK", fn := fun _ => fun
  | [d1, d2] => { results := [.lit (.bool true)], args := [d1, d2] }
  | _ => none }
def fnExactParamsOKRow : OpenClaim := { program := "ytjhcphcjpndciaa", sum := "b843cd3094f41cfa10279c2fb6d2f44eb1c60532c74a45884cade4d10e23ceb3", func := "loop.example/g00012/laws.FnExactParamsOK", spec := "fnExactParamsOK", unfollowed := true, recurses := true, apart := false }
def FnExactParamsOKSaid : Prop := fnExactParamsOKRow.holds Try.pinned (OpenSpec.ofChange fnExactParamsOKSpec)

/-- ITS FALSE NEIGHBOUR: 'it returns false'. Refute it at one input. -/
def fnExactParamsOKWrong : ChangeSpec := { name := "fnExactParamsOK", fn := fun _ => fun
  | [d1, d2] => { results := [.lit (.bool false)], args := [d1, d2] }
  | _ => none }
def FnExactParamsOKWrongFalsely : Prop := fnExactParamsOKRow.holds Try.pinned (OpenSpec.ofChange fnExactParamsOKWrong)

/-- 'laws.FnExactHyperOK': WHATEVER THE INPUT: true; the input reads as it did. -/
def fnExactHyperOKSpec : ChangeSpec := { name := "fnExactHyperOK", fn := fun _ => fun
  | [d] => { results := [.lit (.bool true)], args := [d] }
  | _ => none }
def fnExactHyperOKRow : OpenClaim := { program := "ytjhcphcjpndciaa", sum := "b843cd3094f41cfa10279c2fb6d2f44eb1c60532c74a45884cade4d10e23ceb3", func := "loop.example/g00012/laws.FnExactHyperOK", spec := "fnExactHyperOK", apart := false }
def FnExactHyperOKSaid : Prop := fnExactHyperOKRow.holds Try.pinned (OpenSpec.ofChange fnExactHyperOKSpec)

/-- ITS FALSE NEIGHBOUR: 'it returns false'. Refute it at one input. -/
def fnExactHyperOKWrong : ChangeSpec := { name := "fnExactHyperOK", fn := fun _ => fun
  | [d] => { results := [.lit (.bool false)], args := [d] }
  | _ => none }
def FnExactHyperOKWrongFalsely : Prop := fnExactHyperOKRow.holds Try.pinned (OpenSpec.ofChange fnExactHyperOKWrong)

/-- 'laws.FnVars': WHATEVER THE INPUT: true; the input reads as it did. -/
def fnVarsSpec : ChangeSpec := { name := "fnVars", fn := fun _ => fun
  | [d] => { results := [.lit (.bool true)], args := [d] }
  | _ => none }
def fnVarsRow : OpenClaim := { program := "ytjhcphcjpndciaa", sum := "b843cd3094f41cfa10279c2fb6d2f44eb1c60532c74a45884cade4d10e23ceb3", func := "loop.example/g00012/laws.FnVars", spec := "fnVars", unfollowed := true, recurses := true, apart := false }
def FnVarsSaid : Prop := fnVarsRow.holds Try.pinned (OpenSpec.ofChange fnVarsSpec)

/-- ITS FALSE NEIGHBOUR: 'it returns false'. Refute it at one input. -/
def fnVarsWrong : ChangeSpec := { name := "fnVars", fn := fun _ => fun
  | [d] => { results := [.lit (.bool false)], args := [d] }
  | _ => none }
def FnVarsWrongFalsely : Prop := fnVarsRow.holds Try.pinned (OpenSpec.ofChange fnVarsWrong)

/-- 'laws.FnExactTableOK': WHATEVER THE INPUT: true; the input reads as it did. -/
def fnExactTableOKSpec : ChangeSpec := { name := "fnExactTableOK", fn := fun _ => fun
  | [d] => { results := [.lit (.bool true)], args := [d] }
  | _ => none }
def fnExactTableOKRow : OpenClaim := { program := "ytjhcphcjpndciaa", sum := "b843cd3094f41cfa10279c2fb6d2f44eb1c60532c74a45884cade4d10e23ceb3", func := "loop.example/g00012/laws.FnExactTableOK", spec := "fnExactTableOK", inPlace := ["internal/bytealg.IndexByteString", "internal/bytealg.IndexString"], named := ["internal/bytealg.MaxLen"], apart := false }
def FnExactTableOKSaid : Prop := fnExactTableOKRow.holds Try.pinned (OpenSpec.ofChange fnExactTableOKSpec)

/-- ITS FALSE NEIGHBOUR: 'it returns false'. Refute it at one input. -/
def fnExactTableOKWrong : ChangeSpec := { name := "fnExactTableOK", fn := fun _ => fun
  | [d] => { results := [.lit (.bool false)], args := [d] }
  | _ => none }
def FnExactTableOKWrongFalsely : Prop := fnExactTableOKRow.holds Try.pinned (OpenSpec.ofChange fnExactTableOKWrong)

/-- 'laws.FnExactTableGet': WHATEVER THE INPUT: true; the input reads as it did. -/
def fnExactTableGetSpec : ChangeSpec := { name := "fnExactTableGet", fn := fun _ => fun
  | [d1, d2] => { results := [.lit (.bool true)], args := [d1, d2] }
  | _ => none }
def fnExactTableGetRow : OpenClaim := { program := "ytjhcphcjpndciaa", sum := "b843cd3094f41cfa10279c2fb6d2f44eb1c60532c74a45884cade4d10e23ceb3", func := "loop.example/g00012/laws.FnExactTableGet", spec := "fnExactTableGet", inPlace := ["internal/bytealg.IndexByteString", "internal/bytealg.IndexString"], named := ["internal/bytealg.MaxLen"], apart := false }
def FnExactTableGetSaid : Prop := fnExactTableGetRow.holds Try.pinned (OpenSpec.ofChange fnExactTableGetSpec)

/-- ITS FALSE NEIGHBOUR: 'it returns false'. Refute it at one input. -/
def fnExactTableGetWrong : ChangeSpec := { name := "fnExactTableGet", fn := fun _ => fun
  | [d1, d2] => { results := [.lit (.bool false)], args := [d1, d2] }
  | _ => none }
def FnExactTableGetWrongFalsely : Prop := fnExactTableGetRow.holds Try.pinned (OpenSpec.ofChange fnExactTableGetWrong)

/-- 'laws.FnExactTableCap': WHATEVER THE INPUT: true; the input reads as it did. -/
def fnExactTableCapSpec : ChangeSpec := { name := "fnExactTableCap", fn := fun _ => fun
  | [d1, d2] => { results := [.lit (.bool true)], args := [d1, d2] }
  | _ => none }
def fnExactTableCapRow : OpenClaim := { program := "ytjhcphcjpndciaa", sum := "b843cd3094f41cfa10279c2fb6d2f44eb1c60532c74a45884cade4d10e23ceb3", func := "loop.example/g00012/laws.FnExactTableCap", spec := "fnExactTableCap", inPlace := ["internal/bytealg.IndexByteString", "internal/bytealg.IndexString"], named := ["internal/bytealg.MaxLen"], apart := false }
def FnExactTableCapSaid : Prop := fnExactTableCapRow.holds Try.pinned (OpenSpec.ofChange fnExactTableCapSpec)

/-- ITS FALSE NEIGHBOUR: 'it returns false'. Refute it at one input. -/
def fnExactTableCapWrong : ChangeSpec := { name := "fnExactTableCap", fn := fun _ => fun
  | [d1, d2] => { results := [.lit (.bool false)], args := [d1, d2] }
  | _ => none }
def FnExactTableCapWrongFalsely : Prop := fnExactTableCapRow.holds Try.pinned (OpenSpec.ofChange fnExactTableCapWrong)

/-- 'laws.FnExactTableAdd': WHATEVER THE INPUT: true; the input reads as it did. -/
def fnExactTableAddSpec : ChangeSpec := { name := "fnExactTableAdd", fn := fun _ => fun
  | [d1, d2] => { results := [.lit (.bool true)], args := [d1, d2] }
  | _ => none }
def fnExactTableAddRow : OpenClaim := { program := "ytjhcphcjpndciaa", sum := "b843cd3094f41cfa10279c2fb6d2f44eb1c60532c74a45884cade4d10e23ceb3", func := "loop.example/g00012/laws.FnExactTableAdd", spec := "fnExactTableAdd", inPlace := ["internal/bytealg.IndexByteString", "internal/bytealg.IndexString"], named := ["internal/bytealg.MaxLen"], apart := false }
def FnExactTableAddSaid : Prop := fnExactTableAddRow.holds Try.pinned (OpenSpec.ofChange fnExactTableAddSpec)

/-- ITS FALSE NEIGHBOUR: 'it returns false'. Refute it at one input. -/
def fnExactTableAddWrong : ChangeSpec := { name := "fnExactTableAdd", fn := fun _ => fun
  | [d1, d2] => { results := [.lit (.bool false)], args := [d1, d2] }
  | _ => none }
def FnExactTableAddWrongFalsely : Prop := fnExactTableAddRow.holds Try.pinned (OpenSpec.ofChange fnExactTableAddWrong)

/-- 'laws.FnExactEncoderOK': WHATEVER THE INPUT: true; the input reads as it did. -/
def fnExactEncoderOKSpec : ChangeSpec := { name := "fnExactEncoderOK", fn := fun _ => fun
  | [d] => { results := [.lit (.bool true)], args := [d] }
  | _ => none }
def fnExactEncoderOKRow : OpenClaim := { program := "ytjhcphcjpndciaa", sum := "b843cd3094f41cfa10279c2fb6d2f44eb1c60532c74a45884cade4d10e23ceb3", func := "loop.example/g00012/laws.FnExactEncoderOK", spec := "fnExactEncoderOK", inPlace := ["internal/bytealg.IndexByteString", "internal/bytealg.IndexString"], named := ["internal/bytealg.MaxLen"], apart := false }
def FnExactEncoderOKSaid : Prop := fnExactEncoderOKRow.holds Try.pinned (OpenSpec.ofChange fnExactEncoderOKSpec)

/-- ITS FALSE NEIGHBOUR: 'it returns false'. Refute it at one input. -/
def fnExactEncoderOKWrong : ChangeSpec := { name := "fnExactEncoderOK", fn := fun _ => fun
  | [d] => { results := [.lit (.bool false)], args := [d] }
  | _ => none }
def FnExactEncoderOKWrongFalsely : Prop := fnExactEncoderOKRow.holds Try.pinned (OpenSpec.ofChange fnExactEncoderOKWrong)

/-- 'laws.FnExactReadAcks': WHATEVER THE INPUT: true; the input reads as it did. -/
def fnExactReadAcksSpec : ChangeSpec := { name := "fnExactReadAcks", fn := fun _ => fun
  | [d1, d2] => { results := [.lit (.bool true)], args := [d1, d2] }
  | _ => none }
def fnExactReadAcksRow : OpenClaim := { program := "ytjhcphcjpndciaa", sum := "b843cd3094f41cfa10279c2fb6d2f44eb1c60532c74a45884cade4d10e23ceb3", func := "loop.example/g00012/laws.FnExactReadAcks", spec := "fnExactReadAcks", inPlace := ["internal/bytealg.IndexByteString", "internal/bytealg.IndexString"], unfollowed := true, recurses := true, named := ["internal/bytealg.MaxLen"], apart := false }
def FnExactReadAcksSaid : Prop := fnExactReadAcksRow.holds Try.pinned (OpenSpec.ofChange fnExactReadAcksSpec)

/-- ITS FALSE NEIGHBOUR: 'it returns false'. Refute it at one input. -/
def fnExactReadAcksWrong : ChangeSpec := { name := "fnExactReadAcks", fn := fun _ => fun
  | [d1, d2] => { results := [.lit (.bool false)], args := [d1, d2] }
  | _ => none }
def FnExactReadAcksWrongFalsely : Prop := fnExactReadAcksRow.holds Try.pinned (OpenSpec.ofChange fnExactReadAcksWrong)

/-- 'laws.FnExactRecvRun': WHATEVER THE INPUT: true; the input reads as it did. -/
def fnExactRecvRunSpec : ChangeSpec := { name := "fnExactRecvRun", fn := fun _ => fun
  | [d1, d2] => { results := [.lit (.bool true)], args := [d1, d2] }
  | _ => none }
def fnExactRecvRunRow : OpenClaim := { program := "ytjhcphcjpndciaa", sum := "b843cd3094f41cfa10279c2fb6d2f44eb1c60532c74a45884cade4d10e23ceb3", func := "loop.example/g00012/laws.FnExactRecvRun", spec := "fnExactRecvRun", apart := false }
def FnExactRecvRunSaid : Prop := fnExactRecvRunRow.holds Try.pinned (OpenSpec.ofChange fnExactRecvRunSpec)

/-- ITS FALSE NEIGHBOUR: 'it returns false'. Refute it at one input. -/
def fnExactRecvRunWrong : ChangeSpec := { name := "fnExactRecvRun", fn := fun _ => fun
  | [d1, d2] => { results := [.lit (.bool false)], args := [d1, d2] }
  | _ => none }
def FnExactRecvRunWrongFalsely : Prop := fnExactRecvRunRow.holds Try.pinned (OpenSpec.ofChange fnExactRecvRunWrong)

/-- 'laws.FnExactParamsBytes': WHATEVER THE INPUT: true; the input reads as it did. -/
def fnExactParamsBytesSpec : ChangeSpec := { name := "fnExactParamsBytes", fn := fun _ => fun
  | [d1, d2] => { results := [.lit (.bool true)], args := [d1, d2] }
  | _ => none }
def fnExactParamsBytesRow : OpenClaim := { program := "ytjhcphcjpndciaa", sum := "b843cd3094f41cfa10279c2fb6d2f44eb1c60532c74a45884cade4d10e23ceb3", func := "loop.example/g00012/laws.FnExactParamsBytes", spec := "fnExactParamsBytes", unfollowed := true, recurses := true, apart := false }
def FnExactParamsBytesSaid : Prop := fnExactParamsBytesRow.holds Try.pinned (OpenSpec.ofChange fnExactParamsBytesSpec)

/-- ITS FALSE NEIGHBOUR: 'it returns false'. Refute it at one input. -/
def fnExactParamsBytesWrong : ChangeSpec := { name := "fnExactParamsBytes", fn := fun _ => fun
  | [d1, d2] => { results := [.lit (.bool false)], args := [d1, d2] }
  | _ => none }
def FnExactParamsBytesWrongFalsely : Prop := fnExactParamsBytesRow.holds Try.pinned (OpenSpec.ofChange fnExactParamsBytesWrong)

/- THE SECOND FORM. 'bulk': how many values and letters a reading holds, each counted each time it is reached (what is shared counts as often as it is met; a slice's spare places count too). A statement '..UptoSaid' is the law's where the arguments, and the package variables that the reading takes, are together of bulk at most 1048576: NARROWER than '..Said'. Prove '..Said' where nothing that the law and all that it calls make is longer than what came in: it says more and counts as full. Else prove '..UptoSaid'. A law counts once. -/
mutual
def uptoBulk {H : Type} : DataW H → Nat
  | .lit (.string bytes) => bytes.length + 1
  | .lit _ => 1
  | .nil => 1
  | .ptr d => uptoBulk d + 1
  | .slice elems spare => uptoBulkAll elems + uptoBulkAll spare + 1
  | .agg parts => uptoBulkAll parts + 1
  | .iface _ d => uptoBulk d + 1
  | .map entries => uptoBulkEntries entries + 1
  | .held _ => 1
def uptoBulkAll {H : Type} : List (DataW H) → Nat
  | [] => 0
  | d :: r => uptoBulk d + uptoBulkAll r
def uptoBulkEntries {H : Type} : List (Lit × DataW H) → Nat
  | [] => 0
  | x :: r => uptoBulkEntry x + uptoBulkEntries r
def uptoBulkEntry {H : Type} : Lit × DataW H → Nat
  | (.string bytes, d) => bytes.length + uptoBulk d + 1
  | (_, d) => uptoBulk d + 1
 end
def uptoSmall : (H : Type) → List (DataW H) → Bool := fun _ ds => decide (uptoBulkAll ds ≤ 1048576)
def OpenSpec.upto (s : _root_.Go.ChangeSpec) : _root_.Go.OpenSpec := { _root_.Go.OpenSpec.ofChange s with cond := some uptoSmall }

/-- 'laws.FnExactStaticField', WHERE WHAT IT READS IS OF BULK AT MOST 1048576: true; the input reads as it did. -/
def fnExactStaticFieldUptoRow : OpenClaim := { program := "ytjhcphcjpndciaa", sum := "b843cd3094f41cfa10279c2fb6d2f44eb1c60532c74a45884cade4d10e23ceb3", func := "loop.example/g00012/laws.FnExactStaticField", spec := "fnExactStaticField", apart := false, narrowed := true }
def FnExactStaticFieldUptoSaid : Prop := fnExactStaticFieldUptoRow.holds Try.pinned (OpenSpec.upto fnExactStaticFieldSpec)

/-- 'laws.FnExactParamsOK', WHERE WHAT IT READS IS OF BULK AT MOST 1048576: true; the input reads as it did. -/
def fnExactParamsOKUptoRow : OpenClaim := { program := "ytjhcphcjpndciaa", sum := "b843cd3094f41cfa10279c2fb6d2f44eb1c60532c74a45884cade4d10e23ceb3", func := "loop.example/g00012/laws.FnExactParamsOK", spec := "fnExactParamsOK", unfollowed := true, recurses := true, apart := false, narrowed := true }
def FnExactParamsOKUptoSaid : Prop := fnExactParamsOKUptoRow.holds Try.pinned (OpenSpec.upto fnExactParamsOKSpec)

/-- 'laws.FnExactHyperOK', WHERE WHAT IT READS IS OF BULK AT MOST 1048576: true; the input reads as it did. -/
def fnExactHyperOKUptoRow : OpenClaim := { program := "ytjhcphcjpndciaa", sum := "b843cd3094f41cfa10279c2fb6d2f44eb1c60532c74a45884cade4d10e23ceb3", func := "loop.example/g00012/laws.FnExactHyperOK", spec := "fnExactHyperOK", apart := false, narrowed := true }
def FnExactHyperOKUptoSaid : Prop := fnExactHyperOKUptoRow.holds Try.pinned (OpenSpec.upto fnExactHyperOKSpec)

/-- 'laws.FnVars', WHERE WHAT IT READS IS OF BULK AT MOST 1048576: true; the input reads as it did. -/
def fnVarsUptoRow : OpenClaim := { program := "ytjhcphcjpndciaa", sum := "b843cd3094f41cfa10279c2fb6d2f44eb1c60532c74a45884cade4d10e23ceb3", func := "loop.example/g00012/laws.FnVars", spec := "fnVars", unfollowed := true, recurses := true, apart := false, narrowed := true }
def FnVarsUptoSaid : Prop := fnVarsUptoRow.holds Try.pinned (OpenSpec.upto fnVarsSpec)

/-- 'laws.FnExactTableOK', WHERE WHAT IT READS IS OF BULK AT MOST 1048576: true; the input reads as it did. -/
def fnExactTableOKUptoRow : OpenClaim := { program := "ytjhcphcjpndciaa", sum := "b843cd3094f41cfa10279c2fb6d2f44eb1c60532c74a45884cade4d10e23ceb3", func := "loop.example/g00012/laws.FnExactTableOK", spec := "fnExactTableOK", inPlace := ["internal/bytealg.IndexByteString", "internal/bytealg.IndexString"], named := ["internal/bytealg.MaxLen"], apart := false, narrowed := true }
def FnExactTableOKUptoSaid : Prop := fnExactTableOKUptoRow.holds Try.pinned (OpenSpec.upto fnExactTableOKSpec)

/-- 'laws.FnExactTableGet', WHERE WHAT IT READS IS OF BULK AT MOST 1048576: true; the input reads as it did. -/
def fnExactTableGetUptoRow : OpenClaim := { program := "ytjhcphcjpndciaa", sum := "b843cd3094f41cfa10279c2fb6d2f44eb1c60532c74a45884cade4d10e23ceb3", func := "loop.example/g00012/laws.FnExactTableGet", spec := "fnExactTableGet", inPlace := ["internal/bytealg.IndexByteString", "internal/bytealg.IndexString"], named := ["internal/bytealg.MaxLen"], apart := false, narrowed := true }
def FnExactTableGetUptoSaid : Prop := fnExactTableGetUptoRow.holds Try.pinned (OpenSpec.upto fnExactTableGetSpec)

/-- 'laws.FnExactTableCap', WHERE WHAT IT READS IS OF BULK AT MOST 1048576: true; the input reads as it did. -/
def fnExactTableCapUptoRow : OpenClaim := { program := "ytjhcphcjpndciaa", sum := "b843cd3094f41cfa10279c2fb6d2f44eb1c60532c74a45884cade4d10e23ceb3", func := "loop.example/g00012/laws.FnExactTableCap", spec := "fnExactTableCap", inPlace := ["internal/bytealg.IndexByteString", "internal/bytealg.IndexString"], named := ["internal/bytealg.MaxLen"], apart := false, narrowed := true }
def FnExactTableCapUptoSaid : Prop := fnExactTableCapUptoRow.holds Try.pinned (OpenSpec.upto fnExactTableCapSpec)

/-- 'laws.FnExactTableAdd', WHERE WHAT IT READS IS OF BULK AT MOST 1048576: true; the input reads as it did. -/
def fnExactTableAddUptoRow : OpenClaim := { program := "ytjhcphcjpndciaa", sum := "b843cd3094f41cfa10279c2fb6d2f44eb1c60532c74a45884cade4d10e23ceb3", func := "loop.example/g00012/laws.FnExactTableAdd", spec := "fnExactTableAdd", inPlace := ["internal/bytealg.IndexByteString", "internal/bytealg.IndexString"], named := ["internal/bytealg.MaxLen"], apart := false, narrowed := true }
def FnExactTableAddUptoSaid : Prop := fnExactTableAddUptoRow.holds Try.pinned (OpenSpec.upto fnExactTableAddSpec)

/-- 'laws.FnExactEncoderOK', WHERE WHAT IT READS IS OF BULK AT MOST 1048576: true; the input reads as it did. -/
def fnExactEncoderOKUptoRow : OpenClaim := { program := "ytjhcphcjpndciaa", sum := "b843cd3094f41cfa10279c2fb6d2f44eb1c60532c74a45884cade4d10e23ceb3", func := "loop.example/g00012/laws.FnExactEncoderOK", spec := "fnExactEncoderOK", inPlace := ["internal/bytealg.IndexByteString", "internal/bytealg.IndexString"], named := ["internal/bytealg.MaxLen"], apart := false, narrowed := true }
def FnExactEncoderOKUptoSaid : Prop := fnExactEncoderOKUptoRow.holds Try.pinned (OpenSpec.upto fnExactEncoderOKSpec)

/-- 'laws.FnExactReadAcks', WHERE WHAT IT READS IS OF BULK AT MOST 1048576: true; the input reads as it did. -/
def fnExactReadAcksUptoRow : OpenClaim := { program := "ytjhcphcjpndciaa", sum := "b843cd3094f41cfa10279c2fb6d2f44eb1c60532c74a45884cade4d10e23ceb3", func := "loop.example/g00012/laws.FnExactReadAcks", spec := "fnExactReadAcks", inPlace := ["internal/bytealg.IndexByteString", "internal/bytealg.IndexString"], unfollowed := true, recurses := true, named := ["internal/bytealg.MaxLen"], apart := false, narrowed := true }
def FnExactReadAcksUptoSaid : Prop := fnExactReadAcksUptoRow.holds Try.pinned (OpenSpec.upto fnExactReadAcksSpec)

/-- 'laws.FnExactRecvRun', WHERE WHAT IT READS IS OF BULK AT MOST 1048576: true; the input reads as it did. -/
def fnExactRecvRunUptoRow : OpenClaim := { program := "ytjhcphcjpndciaa", sum := "b843cd3094f41cfa10279c2fb6d2f44eb1c60532c74a45884cade4d10e23ceb3", func := "loop.example/g00012/laws.FnExactRecvRun", spec := "fnExactRecvRun", apart := false, narrowed := true }
def FnExactRecvRunUptoSaid : Prop := fnExactRecvRunUptoRow.holds Try.pinned (OpenSpec.upto fnExactRecvRunSpec)

/-- 'laws.FnExactParamsBytes', WHERE WHAT IT READS IS OF BULK AT MOST 1048576: true; the input reads as it did. -/
def fnExactParamsBytesUptoRow : OpenClaim := { program := "ytjhcphcjpndciaa", sum := "b843cd3094f41cfa10279c2fb6d2f44eb1c60532c74a45884cade4d10e23ceb3", func := "loop.example/g00012/laws.FnExactParamsBytes", spec := "fnExactParamsBytes", unfollowed := true, recurses := true, apart := false, narrowed := true }
def FnExactParamsBytesUptoSaid : Prop := fnExactParamsBytesUptoRow.holds Try.pinned (OpenSpec.upto fnExactParamsBytesSpec)

end Rows
end Go.Proofs.Ytjhcphcjpndciaa
