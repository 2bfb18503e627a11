/-
  No cell of these rows narrows 'for every input' (looked for: loops, veiled, ifaces, maps, wideKeys, modest, calm, conditions, laid).
  DERIVED. THE GIVEN ROWS OF THIS SEAT. 11 by the template 'for every input the law returns true; each argument reads behind the call as it read before'; 0 by the template 'total and deterministic' (their statements: YtolpikjbdfpdcaaTotals.lean).
  GIVEN WITH THE SEED: the statements are not yours to turn. If you find one false, say at which input.
  Laid BY PROGRAM, IN A SANDBOX (cutbox-rows.mjs): the forced cells as the released guide's own fill.sh prints them over the translation 724c2c051b1a07e4… (all of the seat's roots in one cut). By AI agents, Wed Nov 11 2026. No macro, syntax, notation, axiom, sorry.
-/
import Derived.Test.YtolpikjbdfpdcaaChecked
import GoSem.Claim
import GoSem.ClaimJoined
import GoSem.ClaimMapViews
import Derived.JoinedTies
import Derived.KernelRfl
namespace Go.Proofs.Ytolpikjbdfpdcaa
/- THE CELL 'sum', in the pinned program and in every row, IS THE sha256 OF THE DUMP (.gsa) THAT YtolpikjbdfpdcaaProg.lean LOADS. Nothing in Lean hashes anything: it is a label: what it is worth is what the hold of that sum in a sandbox is worth. -/
noncomputable def Try.pinned : Pinned := { name := "ytolpikjbdfpdcaa", sum := "724c2c051b1a07e485886c8f396eebe835b4d2962f625274297fbc209515d53e", checked := Try.checked }
namespace Rows
def none {H : Type} : Left H := { results := [], args := [] }

/-- 'laws.FnExactInitialKeys': WHATEVER THE INPUT: true; the input reads as it did. -/
def fnExactInitialKeysSpec : ChangeSpec := { name := "fnExactInitialKeys", fn := fun _ => fun
  | [d1, d2] => { results := [.lit (.bool true)], args := [d1, d2] }
  | _ => none }
def fnExactInitialKeysRow : OpenClaim := { program := "ytolpikjbdfpdcaa", sum := "724c2c051b1a07e485886c8f396eebe835b4d2962f625274297fbc209515d53e", func := "loop.example/g00012/laws.FnExactInitialKeys", spec := "fnExactInitialKeys", recurses := true, apart := false }
def FnExactInitialKeysSaid : Prop := fnExactInitialKeysRow.holds Try.pinned (OpenSpec.ofChange fnExactInitialKeysSpec)

/-- ITS FALSE NEIGHBOUR: 'it returns false'. Refute it at one input. -/
def fnExactInitialKeysWrong : ChangeSpec := { name := "fnExactInitialKeys", fn := fun _ => fun
  | [d1, d2] => { results := [.lit (.bool false)], args := [d1, d2] }
  | _ => none }
def FnExactInitialKeysWrongFalsely : Prop := fnExactInitialKeysRow.holds Try.pinned (OpenSpec.ofChange fnExactInitialKeysWrong)

/-- 'laws.FnExactTokenMake': WHATEVER THE INPUT: true; the input reads as it did. -/
def fnExactTokenMakeSpec : ChangeSpec := { name := "fnExactTokenMake", fn := fun _ => fun
  | [d1, d2, d3, d4] => { results := [.lit (.bool true)], args := [d1, d2, d3, d4] }
  | _ => none }
def fnExactTokenMakeRow : OpenClaim := { program := "ytolpikjbdfpdcaa", sum := "724c2c051b1a07e485886c8f396eebe835b4d2962f625274297fbc209515d53e", func := "loop.example/g00012/laws.FnExactTokenMake", spec := "fnExactTokenMake", recurses := true, apart := false }
def FnExactTokenMakeSaid : Prop := fnExactTokenMakeRow.holds Try.pinned (OpenSpec.ofChange fnExactTokenMakeSpec)

/-- ITS FALSE NEIGHBOUR: 'it returns false'. Refute it at one input. -/
def fnExactTokenMakeWrong : ChangeSpec := { name := "fnExactTokenMake", fn := fun _ => fun
  | [d1, d2, d3, d4] => { results := [.lit (.bool false)], args := [d1, d2, d3, d4] }
  | _ => none }
def FnExactTokenMakeWrongFalsely : Prop := fnExactTokenMakeRow.holds Try.pinned (OpenSpec.ofChange fnExactTokenMakeWrong)

/-- 'laws.FnExactTokenCheck': WHATEVER THE INPUT: true; the input reads as it did. -/
def fnExactTokenCheckSpec : ChangeSpec := { name := "fnExactTokenCheck", fn := fun _ => fun
  | [d1, d2, d3, d4] => { results := [.lit (.bool true)], args := [d1, d2, d3, d4] }
  | _ => none }
def fnExactTokenCheckRow : OpenClaim := { program := "ytolpikjbdfpdcaa", sum := "724c2c051b1a07e485886c8f396eebe835b4d2962f625274297fbc209515d53e", func := "loop.example/g00012/laws.FnExactTokenCheck", spec := "fnExactTokenCheck", recurses := true, apart := false }
def FnExactTokenCheckSaid : Prop := fnExactTokenCheckRow.holds Try.pinned (OpenSpec.ofChange fnExactTokenCheckSpec)

/-- ITS FALSE NEIGHBOUR: 'it returns false'. Refute it at one input. -/
def fnExactTokenCheckWrong : ChangeSpec := { name := "fnExactTokenCheck", fn := fun _ => fun
  | [d1, d2, d3, d4] => { results := [.lit (.bool false)], args := [d1, d2, d3, d4] }
  | _ => none }
def FnExactTokenCheckWrongFalsely : Prop := fnExactTokenCheckRow.holds Try.pinned (OpenSpec.ofChange fnExactTokenCheckWrong)

/-- 'laws.FnSealed': WHATEVER THE INPUT: true; the input reads as it did. -/
def fnSealedSpec : ChangeSpec := { name := "fnSealed", fn := fun _ => fun
  | [d] => { results := [.lit (.bool true)], args := [d] }
  | _ => none }
def fnSealedRow : OpenClaim := { program := "ytolpikjbdfpdcaa", sum := "724c2c051b1a07e485886c8f396eebe835b4d2962f625274297fbc209515d53e", func := "loop.example/g00012/laws.FnSealed", spec := "fnSealed", recurses := true, apart := false }
def FnSealedSaid : Prop := fnSealedRow.holds Try.pinned (OpenSpec.ofChange fnSealedSpec)

/-- ITS FALSE NEIGHBOUR: 'it returns false'. Refute it at one input. -/
def fnSealedWrong : ChangeSpec := { name := "fnSealed", fn := fun _ => fun
  | [d] => { results := [.lit (.bool false)], args := [d] }
  | _ => none }
def FnSealedWrongFalsely : Prop := fnSealedRow.holds Try.pinned (OpenSpec.ofChange fnSealedWrong)

/-- 'laws.FnTokens': WHATEVER THE INPUT: true; the input reads as it did. -/
def fnTokensSpec : ChangeSpec := { name := "fnTokens", fn := fun _ => fun
  | [d1, d2] => { results := [.lit (.bool true)], args := [d1, d2] }
  | _ => none }
def fnTokensRow : OpenClaim := { program := "ytolpikjbdfpdcaa", sum := "724c2c051b1a07e485886c8f396eebe835b4d2962f625274297fbc209515d53e", func := "loop.example/g00012/laws.FnTokens", spec := "fnTokens", recurses := true, apart := false }
def FnTokensSaid : Prop := fnTokensRow.holds Try.pinned (OpenSpec.ofChange fnTokensSpec)

/-- ITS FALSE NEIGHBOUR: 'it returns false'. Refute it at one input. -/
def fnTokensWrong : ChangeSpec := { name := "fnTokens", fn := fun _ => fun
  | [d1, d2] => { results := [.lit (.bool false)], args := [d1, d2] }
  | _ => none }
def FnTokensWrongFalsely : Prop := fnTokensRow.holds Try.pinned (OpenSpec.ofChange fnTokensWrong)

/-- 'laws.FnPaths': WHATEVER THE INPUT: true; the input reads as it did. -/
def fnPathsSpec : ChangeSpec := { name := "fnPaths", fn := fun _ => fun
  | [d] => { results := [.lit (.bool true)], args := [d] }
  | _ => none }
def fnPathsRow : OpenClaim := { program := "ytolpikjbdfpdcaa", sum := "724c2c051b1a07e485886c8f396eebe835b4d2962f625274297fbc209515d53e", func := "loop.example/g00012/laws.FnPaths", spec := "fnPaths", unfollowed := true, recurses := true, apart := false }
def FnPathsSaid : Prop := fnPathsRow.holds Try.pinned (OpenSpec.ofChange fnPathsSpec)

/-- ITS FALSE NEIGHBOUR: 'it returns false'. Refute it at one input. -/
def fnPathsWrong : ChangeSpec := { name := "fnPaths", fn := fun _ => fun
  | [d] => { results := [.lit (.bool false)], args := [d] }
  | _ => none }
def FnPathsWrongFalsely : Prop := fnPathsRow.holds Try.pinned (OpenSpec.ofChange fnPathsWrong)

/-- 'laws.FnExactPathRun': WHATEVER THE INPUT: true; the input reads as it did. -/
def fnExactPathRunSpec : ChangeSpec := { name := "fnExactPathRun", fn := fun _ => fun
  | [d1, d2] => { results := [.lit (.bool true)], args := [d1, d2] }
  | _ => none }
def fnExactPathRunRow : OpenClaim := { program := "ytolpikjbdfpdcaa", sum := "724c2c051b1a07e485886c8f396eebe835b4d2962f625274297fbc209515d53e", func := "loop.example/g00012/laws.FnExactPathRun", spec := "fnExactPathRun", unfollowed := true, recurses := true, apart := false }
def FnExactPathRunSaid : Prop := fnExactPathRunRow.holds Try.pinned (OpenSpec.ofChange fnExactPathRunSpec)

/-- ITS FALSE NEIGHBOUR: 'it returns false'. Refute it at one input. -/
def fnExactPathRunWrong : ChangeSpec := { name := "fnExactPathRun", fn := fun _ => fun
  | [d1, d2] => { results := [.lit (.bool false)], args := [d1, d2] }
  | _ => none }
def FnExactPathRunWrongFalsely : Prop := fnExactPathRunRow.holds Try.pinned (OpenSpec.ofChange fnExactPathRunWrong)

/-- 'laws.FnExactReadVersions': WHATEVER THE INPUT: true; the input reads as it did. -/
def fnExactReadVersionsSpec : ChangeSpec := { name := "fnExactReadVersions", fn := fun _ => fun
  | [d] => { results := [.lit (.bool true)], args := [d] }
  | _ => none }
def fnExactReadVersionsRow : OpenClaim := { program := "ytolpikjbdfpdcaa", sum := "724c2c051b1a07e485886c8f396eebe835b4d2962f625274297fbc209515d53e", func := "loop.example/g00012/laws.FnExactReadVersions", spec := "fnExactReadVersions", apart := false }
def FnExactReadVersionsSaid : Prop := fnExactReadVersionsRow.holds Try.pinned (OpenSpec.ofChange fnExactReadVersionsSpec)

/-- ITS FALSE NEIGHBOUR: 'it returns false'. Refute it at one input. -/
def fnExactReadVersionsWrong : ChangeSpec := { name := "fnExactReadVersions", fn := fun _ => fun
  | [d] => { results := [.lit (.bool false)], args := [d] }
  | _ => none }
def FnExactReadVersionsWrongFalsely : Prop := fnExactReadVersionsRow.holds Try.pinned (OpenSpec.ofChange fnExactReadVersionsWrong)

/-- 'laws.FnExactHyperBytes': WHATEVER THE INPUT: true; the input reads as it did. -/
def fnExactHyperBytesSpec : ChangeSpec := { name := "fnExactHyperBytes", fn := fun _ => fun
  | [d] => { results := [.lit (.bool true)], args := [d] }
  | _ => none }
def fnExactHyperBytesRow : OpenClaim := { program := "ytolpikjbdfpdcaa", sum := "724c2c051b1a07e485886c8f396eebe835b4d2962f625274297fbc209515d53e", func := "loop.example/g00012/laws.FnExactHyperBytes", spec := "fnExactHyperBytes", recurses := true, apart := false }
def FnExactHyperBytesSaid : Prop := fnExactHyperBytesRow.holds Try.pinned (OpenSpec.ofChange fnExactHyperBytesSpec)

/-- ITS FALSE NEIGHBOUR: 'it returns false'. Refute it at one input. -/
def fnExactHyperBytesWrong : ChangeSpec := { name := "fnExactHyperBytes", fn := fun _ => fun
  | [d] => { results := [.lit (.bool false)], args := [d] }
  | _ => none }
def FnExactHyperBytesWrongFalsely : Prop := fnExactHyperBytesRow.holds Try.pinned (OpenSpec.ofChange fnExactHyperBytesWrong)

/-- 'laws.FnExactReadHyper': WHATEVER THE INPUT: true; the input reads as it did. -/
def fnExactReadHyperSpec : ChangeSpec := { name := "fnExactReadHyper", fn := fun _ => fun
  | [d1, d2] => { results := [.lit (.bool true)], args := [d1, d2] }
  | _ => none }
def fnExactReadHyperRow : OpenClaim := { program := "ytolpikjbdfpdcaa", sum := "724c2c051b1a07e485886c8f396eebe835b4d2962f625274297fbc209515d53e", func := "loop.example/g00012/laws.FnExactReadHyper", spec := "fnExactReadHyper", apart := false }
def FnExactReadHyperSaid : Prop := fnExactReadHyperRow.holds Try.pinned (OpenSpec.ofChange fnExactReadHyperSpec)

/-- ITS FALSE NEIGHBOUR: 'it returns false'. Refute it at one input. -/
def fnExactReadHyperWrong : ChangeSpec := { name := "fnExactReadHyper", fn := fun _ => fun
  | [d1, d2] => { results := [.lit (.bool false)], args := [d1, d2] }
  | _ => none }
def FnExactReadHyperWrongFalsely : Prop := fnExactReadHyperRow.holds Try.pinned (OpenSpec.ofChange fnExactReadHyperWrong)

/-- 'laws.FnHyper': WHATEVER THE INPUT: true; the input reads as it did. -/
def fnHyperSpec : ChangeSpec := { name := "fnHyper", fn := fun _ => fun
  | [d] => { results := [.lit (.bool true)], args := [d] }
  | _ => none }
def fnHyperRow : OpenClaim := { program := "ytolpikjbdfpdcaa", sum := "724c2c051b1a07e485886c8f396eebe835b4d2962f625274297fbc209515d53e", func := "loop.example/g00012/laws.FnHyper", spec := "fnHyper", recurses := true, apart := false }
def FnHyperSaid : Prop := fnHyperRow.holds Try.pinned (OpenSpec.ofChange fnHyperSpec)

/-- ITS FALSE NEIGHBOUR: 'it returns false'. Refute it at one input. -/
def fnHyperWrong : ChangeSpec := { name := "fnHyper", fn := fun _ => fun
  | [d] => { results := [.lit (.bool false)], args := [d] }
  | _ => none }
def FnHyperWrongFalsely : Prop := fnHyperRow.holds Try.pinned (OpenSpec.ofChange fnHyperWrong)

/- THE SECOND FORM. 'bulk': how many values and letters a reading holds, each counted each time it is reached (what is shared counts as often as it is met; a slice's spare places count too). A statement '..UptoSaid' is the law's where the arguments, and the package variables that the reading takes, are together of bulk at most 1048576: NARROWER than '..Said'. Prove '..Said' where nothing that the law and all that it calls make is longer than what came in: it says more and counts as full. Else prove '..UptoSaid'. A law counts once. -/
mutual
def uptoBulk {H : Type} : DataW H → Nat
  | .lit (.string bytes) => bytes.length + 1
  | .lit _ => 1
  | .nil => 1
  | .ptr d => uptoBulk d + 1
  | .slice elems spare => uptoBulkAll elems + uptoBulkAll spare + 1
  | .agg parts => uptoBulkAll parts + 1
  | .iface _ d => uptoBulk d + 1
  | .map entries => uptoBulkEntries entries + 1
  | .held _ => 1
def uptoBulkAll {H : Type} : List (DataW H) → Nat
  | [] => 0
  | d :: r => uptoBulk d + uptoBulkAll r
def uptoBulkEntries {H : Type} : List (Lit × DataW H) → Nat
  | [] => 0
  | x :: r => uptoBulkEntry x + uptoBulkEntries r
def uptoBulkEntry {H : Type} : Lit × DataW H → Nat
  | (.string bytes, d) => bytes.length + uptoBulk d + 1
  | (_, d) => uptoBulk d + 1
 end
def uptoSmall : (H : Type) → List (DataW H) → Bool := fun _ ds => decide (uptoBulkAll ds ≤ 1048576)
def OpenSpec.upto (s : _root_.Go.ChangeSpec) : _root_.Go.OpenSpec := { _root_.Go.OpenSpec.ofChange s with cond := some uptoSmall }

/-- 'laws.FnExactInitialKeys', WHERE WHAT IT READS IS OF BULK AT MOST 1048576: true; the input reads as it did. -/
def fnExactInitialKeysUptoRow : OpenClaim := { program := "ytolpikjbdfpdcaa", sum := "724c2c051b1a07e485886c8f396eebe835b4d2962f625274297fbc209515d53e", func := "loop.example/g00012/laws.FnExactInitialKeys", spec := "fnExactInitialKeys", recurses := true, apart := false, narrowed := true }
def FnExactInitialKeysUptoSaid : Prop := fnExactInitialKeysUptoRow.holds Try.pinned (OpenSpec.upto fnExactInitialKeysSpec)

/-- 'laws.FnExactTokenMake', WHERE WHAT IT READS IS OF BULK AT MOST 1048576: true; the input reads as it did. -/
def fnExactTokenMakeUptoRow : OpenClaim := { program := "ytolpikjbdfpdcaa", sum := "724c2c051b1a07e485886c8f396eebe835b4d2962f625274297fbc209515d53e", func := "loop.example/g00012/laws.FnExactTokenMake", spec := "fnExactTokenMake", recurses := true, apart := false, narrowed := true }
def FnExactTokenMakeUptoSaid : Prop := fnExactTokenMakeUptoRow.holds Try.pinned (OpenSpec.upto fnExactTokenMakeSpec)

/-- 'laws.FnExactTokenCheck', WHERE WHAT IT READS IS OF BULK AT MOST 1048576: true; the input reads as it did. -/
def fnExactTokenCheckUptoRow : OpenClaim := { program := "ytolpikjbdfpdcaa", sum := "724c2c051b1a07e485886c8f396eebe835b4d2962f625274297fbc209515d53e", func := "loop.example/g00012/laws.FnExactTokenCheck", spec := "fnExactTokenCheck", recurses := true, apart := false, narrowed := true }
def FnExactTokenCheckUptoSaid : Prop := fnExactTokenCheckUptoRow.holds Try.pinned (OpenSpec.upto fnExactTokenCheckSpec)

/-- 'laws.FnSealed', WHERE WHAT IT READS IS OF BULK AT MOST 1048576: true; the input reads as it did. -/
def fnSealedUptoRow : OpenClaim := { program := "ytolpikjbdfpdcaa", sum := "724c2c051b1a07e485886c8f396eebe835b4d2962f625274297fbc209515d53e", func := "loop.example/g00012/laws.FnSealed", spec := "fnSealed", recurses := true, apart := false, narrowed := true }
def FnSealedUptoSaid : Prop := fnSealedUptoRow.holds Try.pinned (OpenSpec.upto fnSealedSpec)

/-- 'laws.FnTokens', WHERE WHAT IT READS IS OF BULK AT MOST 1048576: true; the input reads as it did. -/
def fnTokensUptoRow : OpenClaim := { program := "ytolpikjbdfpdcaa", sum := "724c2c051b1a07e485886c8f396eebe835b4d2962f625274297fbc209515d53e", func := "loop.example/g00012/laws.FnTokens", spec := "fnTokens", recurses := true, apart := false, narrowed := true }
def FnTokensUptoSaid : Prop := fnTokensUptoRow.holds Try.pinned (OpenSpec.upto fnTokensSpec)

/-- 'laws.FnPaths', WHERE WHAT IT READS IS OF BULK AT MOST 1048576: true; the input reads as it did. -/
def fnPathsUptoRow : OpenClaim := { program := "ytolpikjbdfpdcaa", sum := "724c2c051b1a07e485886c8f396eebe835b4d2962f625274297fbc209515d53e", func := "loop.example/g00012/laws.FnPaths", spec := "fnPaths", unfollowed := true, recurses := true, apart := false, narrowed := true }
def FnPathsUptoSaid : Prop := fnPathsUptoRow.holds Try.pinned (OpenSpec.upto fnPathsSpec)

/-- 'laws.FnExactPathRun', WHERE WHAT IT READS IS OF BULK AT MOST 1048576: true; the input reads as it did. -/
def fnExactPathRunUptoRow : OpenClaim := { program := "ytolpikjbdfpdcaa", sum := "724c2c051b1a07e485886c8f396eebe835b4d2962f625274297fbc209515d53e", func := "loop.example/g00012/laws.FnExactPathRun", spec := "fnExactPathRun", unfollowed := true, recurses := true, apart := false, narrowed := true }
def FnExactPathRunUptoSaid : Prop := fnExactPathRunUptoRow.holds Try.pinned (OpenSpec.upto fnExactPathRunSpec)

/-- 'laws.FnExactReadVersions', WHERE WHAT IT READS IS OF BULK AT MOST 1048576: true; the input reads as it did. -/
def fnExactReadVersionsUptoRow : OpenClaim := { program := "ytolpikjbdfpdcaa", sum := "724c2c051b1a07e485886c8f396eebe835b4d2962f625274297fbc209515d53e", func := "loop.example/g00012/laws.FnExactReadVersions", spec := "fnExactReadVersions", apart := false, narrowed := true }
def FnExactReadVersionsUptoSaid : Prop := fnExactReadVersionsUptoRow.holds Try.pinned (OpenSpec.upto fnExactReadVersionsSpec)

/-- 'laws.FnExactHyperBytes', WHERE WHAT IT READS IS OF BULK AT MOST 1048576: true; the input reads as it did. -/
def fnExactHyperBytesUptoRow : OpenClaim := { program := "ytolpikjbdfpdcaa", sum := "724c2c051b1a07e485886c8f396eebe835b4d2962f625274297fbc209515d53e", func := "loop.example/g00012/laws.FnExactHyperBytes", spec := "fnExactHyperBytes", recurses := true, apart := false, narrowed := true }
def FnExactHyperBytesUptoSaid : Prop := fnExactHyperBytesUptoRow.holds Try.pinned (OpenSpec.upto fnExactHyperBytesSpec)

/-- 'laws.FnExactReadHyper', WHERE WHAT IT READS IS OF BULK AT MOST 1048576: true; the input reads as it did. -/
def fnExactReadHyperUptoRow : OpenClaim := { program := "ytolpikjbdfpdcaa", sum := "724c2c051b1a07e485886c8f396eebe835b4d2962f625274297fbc209515d53e", func := "loop.example/g00012/laws.FnExactReadHyper", spec := "fnExactReadHyper", apart := false, narrowed := true }
def FnExactReadHyperUptoSaid : Prop := fnExactReadHyperUptoRow.holds Try.pinned (OpenSpec.upto fnExactReadHyperSpec)

/-- 'laws.FnHyper', WHERE WHAT IT READS IS OF BULK AT MOST 1048576: true; the input reads as it did. -/
def fnHyperUptoRow : OpenClaim := { program := "ytolpikjbdfpdcaa", sum := "724c2c051b1a07e485886c8f396eebe835b4d2962f625274297fbc209515d53e", func := "loop.example/g00012/laws.FnHyper", spec := "fnHyper", recurses := true, apart := false, narrowed := true }
def FnHyperUptoSaid : Prop := fnHyperUptoRow.holds Try.pinned (OpenSpec.upto fnHyperSpec)

end Rows
end Go.Proofs.Ytolpikjbdfpdcaa
