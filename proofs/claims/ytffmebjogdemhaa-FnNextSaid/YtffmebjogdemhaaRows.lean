/-
  No cell of these rows narrows 'for every input' (looked for: loops, veiled, ifaces, maps, wideKeys, modest, calm, conditions, laid).
  DERIVED. THE GIVEN ROWS OF THIS SEAT. 12 by the template 'for every input the law returns true; each argument reads behind the call as it read before'; 0 by the template 'total and deterministic' (their statements: YtffmebjogdemhaaTotals.lean).
  GIVEN WITH THE SEED: the statements are not yours to turn. If you find one false, say at which input.
  Laid BY PROGRAM, IN A SANDBOX (cutbox-rows.mjs): the forced cells as the released guide's own fill.sh prints them over the translation 2fb9f1653f5ccd78… (all of the seat's roots in one cut). By AI agents, Wed Nov 11 2026. No macro, syntax, notation, axiom, sorry.
-/
import Derived.Test.YtffmebjogdemhaaChecked
import GoSem.Claim
import GoSem.ClaimJoined
import GoSem.ClaimMapViews
import Derived.JoinedTies
import Derived.KernelRfl
namespace Go.Proofs.Ytffmebjogdemhaa
/- THE CELL 'sum', in the pinned program and in every row, IS THE sha256 OF THE DUMP (.gsa) THAT YtffmebjogdemhaaProg.lean LOADS. Nothing in Lean hashes anything: it is a label: what it is worth is what the hold of that sum in a sandbox is worth. -/
noncomputable def Try.pinned : Pinned := { name := "ytffmebjogdemhaa", sum := "2fb9f1653f5ccd7830cb80fdd4857fcc5c46726d432d5b37fc40460661d3cbb9", checked := Try.checked }
namespace Rows
def none {H : Type} : Left H := { results := [], args := [] }

/-- 'laws.FnExactArrange': WHATEVER THE INPUT: true; the input reads as it did. -/
def fnExactArrangeSpec : ChangeSpec := { name := "fnExactArrange", fn := fun _ => fun
  | [d1, d2] => { results := [.lit (.bool true)], args := [d1, d2] }
  | _ => none }
def fnExactArrangeRow : OpenClaim := { program := "ytffmebjogdemhaa", sum := "2fb9f1653f5ccd7830cb80fdd4857fcc5c46726d432d5b37fc40460661d3cbb9", func := "loop.example/g00012/laws.FnExactArrange", spec := "fnExactArrange", apart := false }
def FnExactArrangeSaid : Prop := fnExactArrangeRow.holds Try.pinned (OpenSpec.ofChange fnExactArrangeSpec)

/-- ITS FALSE NEIGHBOUR: 'it returns false'. Refute it at one input. -/
def fnExactArrangeWrong : ChangeSpec := { name := "fnExactArrange", fn := fun _ => fun
  | [d1, d2] => { results := [.lit (.bool false)], args := [d1, d2] }
  | _ => none }
def FnExactArrangeWrongFalsely : Prop := fnExactArrangeRow.holds Try.pinned (OpenSpec.ofChange fnExactArrangeWrong)

/-- 'laws.FnExactStaticField': WHATEVER THE INPUT: true; the input reads as it did. -/
def fnExactStaticFieldSpec : ChangeSpec := { name := "fnExactStaticField", fn := fun _ => fun
  | [d] => { results := [.lit (.bool true)], args := [d] }
  | _ => none }
def fnExactStaticFieldRow : OpenClaim := { program := "ytffmebjogdemhaa", sum := "2fb9f1653f5ccd7830cb80fdd4857fcc5c46726d432d5b37fc40460661d3cbb9", func := "loop.example/g00012/laws.FnExactStaticField", spec := "fnExactStaticField", apart := false }
def FnExactStaticFieldSaid : Prop := fnExactStaticFieldRow.holds Try.pinned (OpenSpec.ofChange fnExactStaticFieldSpec)

/-- ITS FALSE NEIGHBOUR: 'it returns false'. Refute it at one input. -/
def fnExactStaticFieldWrong : ChangeSpec := { name := "fnExactStaticField", fn := fun _ => fun
  | [d] => { results := [.lit (.bool false)], args := [d] }
  | _ => none }
def FnExactStaticFieldWrongFalsely : Prop := fnExactStaticFieldRow.holds Try.pinned (OpenSpec.ofChange fnExactStaticFieldWrong)

/-- 'laws.FnExactChooseVersion': WHATEVER THE INPUT: true; the input reads as it did. -/
def fnExactChooseVersionSpec : ChangeSpec := { name := "fnExactChooseVersion", fn := fun _ => fun
  | [d1, d2] => { results := [.lit (.bool true)], args := [d1, d2] }
  | _ => none }
def fnExactChooseVersionRow : OpenClaim := { program := "ytffmebjogdemhaa", sum := "2fb9f1653f5ccd7830cb80fdd4857fcc5c46726d432d5b37fc40460661d3cbb9", func := "loop.example/g00012/laws.FnExactChooseVersion", spec := "fnExactChooseVersion", apart := false }
def FnExactChooseVersionSaid : Prop := fnExactChooseVersionRow.holds Try.pinned (OpenSpec.ofChange fnExactChooseVersionSpec)

/-- ITS FALSE NEIGHBOUR: 'it returns false'. Refute it at one input. -/
def fnExactChooseVersionWrong : ChangeSpec := { name := "fnExactChooseVersion", fn := fun _ => fun
  | [d1, d2] => { results := [.lit (.bool false)], args := [d1, d2] }
  | _ => none }
def FnExactChooseVersionWrongFalsely : Prop := fnExactChooseVersionRow.holds Try.pinned (OpenSpec.ofChange fnExactChooseVersionWrong)

/-- 'laws.FnExactPutPrefix': WHATEVER THE INPUT: true; the input reads as it did. -/
def fnExactPutPrefixSpec : ChangeSpec := { name := "fnExactPutPrefix", fn := fun _ => fun
  | [d1, d2, d3] => { results := [.lit (.bool true)], args := [d1, d2, d3] }
  | _ => none }
def fnExactPutPrefixRow : OpenClaim := { program := "ytffmebjogdemhaa", sum := "2fb9f1653f5ccd7830cb80fdd4857fcc5c46726d432d5b37fc40460661d3cbb9", func := "loop.example/g00012/laws.FnExactPutPrefix", spec := "fnExactPutPrefix", apart := false }
def FnExactPutPrefixSaid : Prop := fnExactPutPrefixRow.holds Try.pinned (OpenSpec.ofChange fnExactPutPrefixSpec)

/-- ITS FALSE NEIGHBOUR: 'it returns false'. Refute it at one input. -/
def fnExactPutPrefixWrong : ChangeSpec := { name := "fnExactPutPrefix", fn := fun _ => fun
  | [d1, d2, d3] => { results := [.lit (.bool false)], args := [d1, d2, d3] }
  | _ => none }
def FnExactPutPrefixWrongFalsely : Prop := fnExactPutPrefixRow.holds Try.pinned (OpenSpec.ofChange fnExactPutPrefixWrong)

/-- 'laws.FnExactNextStream': WHATEVER THE INPUT: true; the input reads as it did. -/
def fnExactNextStreamSpec : ChangeSpec := { name := "fnExactNextStream", fn := fun _ => fun
  | [d] => { results := [.lit (.bool true)], args := [d] }
  | _ => none }
def fnExactNextStreamRow : OpenClaim := { program := "ytffmebjogdemhaa", sum := "2fb9f1653f5ccd7830cb80fdd4857fcc5c46726d432d5b37fc40460661d3cbb9", func := "loop.example/g00012/laws.FnExactNextStream", spec := "fnExactNextStream", apart := false }
def FnExactNextStreamSaid : Prop := fnExactNextStreamRow.holds Try.pinned (OpenSpec.ofChange fnExactNextStreamSpec)

/-- ITS FALSE NEIGHBOUR: 'it returns false'. Refute it at one input. -/
def fnExactNextStreamWrong : ChangeSpec := { name := "fnExactNextStream", fn := fun _ => fun
  | [d] => { results := [.lit (.bool false)], args := [d] }
  | _ => none }
def FnExactNextStreamWrongFalsely : Prop := fnExactNextStreamRow.holds Try.pinned (OpenSpec.ofChange fnExactNextStreamWrong)

/-- 'laws.FnExactGetPrefix': WHATEVER THE INPUT: true; the input reads as it did. -/
def fnExactGetPrefixSpec : ChangeSpec := { name := "fnExactGetPrefix", fn := fun _ => fun
  | [d1, d2, d3] => { results := [.lit (.bool true)], args := [d1, d2, d3] }
  | _ => none }
def fnExactGetPrefixRow : OpenClaim := { program := "ytffmebjogdemhaa", sum := "2fb9f1653f5ccd7830cb80fdd4857fcc5c46726d432d5b37fc40460661d3cbb9", func := "loop.example/g00012/laws.FnExactGetPrefix", spec := "fnExactGetPrefix", apart := false }
def FnExactGetPrefixSaid : Prop := fnExactGetPrefixRow.holds Try.pinned (OpenSpec.ofChange fnExactGetPrefixSpec)

/-- ITS FALSE NEIGHBOUR: 'it returns false'. Refute it at one input. -/
def fnExactGetPrefixWrong : ChangeSpec := { name := "fnExactGetPrefix", fn := fun _ => fun
  | [d1, d2, d3] => { results := [.lit (.bool false)], args := [d1, d2, d3] }
  | _ => none }
def FnExactGetPrefixWrongFalsely : Prop := fnExactGetPrefixRow.holds Try.pinned (OpenSpec.ofChange fnExactGetPrefixWrong)

/-- 'laws.FnExactParamsOK': WHATEVER THE INPUT: true; the input reads as it did. -/
def fnExactParamsOKSpec : ChangeSpec := { name := "fnExactParamsOK", fn := fun _ => fun
  | [d1, d2] => { results := [.lit (.bool true)], args := [d1, d2] }
  | _ => none }
def fnExactParamsOKRow : OpenClaim := { program := "ytffmebjogdemhaa", sum := "2fb9f1653f5ccd7830cb80fdd4857fcc5c46726d432d5b37fc40460661d3cbb9", func := "loop.example/g00012/laws.FnExactParamsOK", spec := "fnExactParamsOK", unfollowed := true, recurses := true, apart := false }
def FnExactParamsOKSaid : Prop := fnExactParamsOKRow.holds Try.pinned (OpenSpec.ofChange fnExactParamsOKSpec)

/-- ITS FALSE NEIGHBOUR: 'it returns false'. Refute it at one input. -/
def fnExactParamsOKWrong : ChangeSpec := { name := "fnExactParamsOK", fn := fun _ => fun
  | [d1, d2] => { results := [.lit (.bool false)], args := [d1, d2] }
  | _ => none }
def FnExactParamsOKWrongFalsely : Prop := fnExactParamsOKRow.holds Try.pinned (OpenSpec.ofChange fnExactParamsOKWrong)

/-- 'laws.FnExactHyperOK': WHATEVER THE INPUT: true; the input reads as it did. -/
def fnExactHyperOKSpec : ChangeSpec := { name := "fnExactHyperOK", fn := fun _ => fun
  | [d] => { results := [.lit (.bool true)], args := [d] }
  | _ => none }
def fnExactHyperOKRow : OpenClaim := { program := "ytffmebjogdemhaa", sum := "2fb9f1653f5ccd7830cb80fdd4857fcc5c46726d432d5b37fc40460661d3cbb9", func := "loop.example/g00012/laws.FnExactHyperOK", spec := "fnExactHyperOK", apart := false }
def FnExactHyperOKSaid : Prop := fnExactHyperOKRow.holds Try.pinned (OpenSpec.ofChange fnExactHyperOKSpec)

/-- ITS FALSE NEIGHBOUR: 'it returns false'. Refute it at one input. -/
def fnExactHyperOKWrong : ChangeSpec := { name := "fnExactHyperOK", fn := fun _ => fun
  | [d] => { results := [.lit (.bool false)], args := [d] }
  | _ => none }
def FnExactHyperOKWrongFalsely : Prop := fnExactHyperOKRow.holds Try.pinned (OpenSpec.ofChange fnExactHyperOKWrong)

/-- 'laws.FnNext': WHATEVER THE INPUT: true; the input reads as it did. -/
def fnNextSpec : ChangeSpec := { name := "fnNext", fn := fun _ => fun
  | [d] => { results := [.lit (.bool true)], args := [d] }
  | _ => none }
def fnNextRow : OpenClaim := { program := "ytffmebjogdemhaa", sum := "2fb9f1653f5ccd7830cb80fdd4857fcc5c46726d432d5b37fc40460661d3cbb9", func := "loop.example/g00012/laws.FnNext", spec := "fnNext", apart := false }
def FnNextSaid : Prop := fnNextRow.holds Try.pinned (OpenSpec.ofChange fnNextSpec)

/-- ITS FALSE NEIGHBOUR: 'it returns false'. Refute it at one input. -/
def fnNextWrong : ChangeSpec := { name := "fnNext", fn := fun _ => fun
  | [d] => { results := [.lit (.bool false)], args := [d] }
  | _ => none }
def FnNextWrongFalsely : Prop := fnNextRow.holds Try.pinned (OpenSpec.ofChange fnNextWrong)

/-- 'laws.FnRecvPrefix': WHATEVER THE INPUT: true; the input reads as it did. -/
def fnRecvPrefixSpec : ChangeSpec := { name := "fnRecvPrefix", fn := fun _ => fun
  | [d1, d2] => { results := [.lit (.bool true)], args := [d1, d2] }
  | _ => none }
def fnRecvPrefixRow : OpenClaim := { program := "ytffmebjogdemhaa", sum := "2fb9f1653f5ccd7830cb80fdd4857fcc5c46726d432d5b37fc40460661d3cbb9", func := "loop.example/g00012/laws.FnRecvPrefix", spec := "fnRecvPrefix", apart := false }
def FnRecvPrefixSaid : Prop := fnRecvPrefixRow.holds Try.pinned (OpenSpec.ofChange fnRecvPrefixSpec)

/-- ITS FALSE NEIGHBOUR: 'it returns false'. Refute it at one input. -/
def fnRecvPrefixWrong : ChangeSpec := { name := "fnRecvPrefix", fn := fun _ => fun
  | [d1, d2] => { results := [.lit (.bool false)], args := [d1, d2] }
  | _ => none }
def FnRecvPrefixWrongFalsely : Prop := fnRecvPrefixRow.holds Try.pinned (OpenSpec.ofChange fnRecvPrefixWrong)

/-- 'laws.FnPrefix': WHATEVER THE INPUT: true; the input reads as it did. -/
def fnPrefixSpec : ChangeSpec := { name := "fnPrefix", fn := fun _ => fun
  | [d] => { results := [.lit (.bool true)], args := [d] }
  | _ => none }
def fnPrefixRow : OpenClaim := { program := "ytffmebjogdemhaa", sum := "2fb9f1653f5ccd7830cb80fdd4857fcc5c46726d432d5b37fc40460661d3cbb9", func := "loop.example/g00012/laws.FnPrefix", spec := "fnPrefix", apart := false }
def FnPrefixSaid : Prop := fnPrefixRow.holds Try.pinned (OpenSpec.ofChange fnPrefixSpec)

/-- ITS FALSE NEIGHBOUR: 'it returns false'. Refute it at one input. -/
def fnPrefixWrong : ChangeSpec := { name := "fnPrefix", fn := fun _ => fun
  | [d] => { results := [.lit (.bool false)], args := [d] }
  | _ => none }
def FnPrefixWrongFalsely : Prop := fnPrefixRow.holds Try.pinned (OpenSpec.ofChange fnPrefixWrong)

/-- 'laws.FnVars': WHATEVER THE INPUT: true; the input reads as it did. -/
def fnVarsSpec : ChangeSpec := { name := "fnVars", fn := fun _ => fun
  | [d] => { results := [.lit (.bool true)], args := [d] }
  | _ => none }
def fnVarsRow : OpenClaim := { program := "ytffmebjogdemhaa", sum := "2fb9f1653f5ccd7830cb80fdd4857fcc5c46726d432d5b37fc40460661d3cbb9", func := "loop.example/g00012/laws.FnVars", spec := "fnVars", unfollowed := true, recurses := true, apart := false }
def FnVarsSaid : Prop := fnVarsRow.holds Try.pinned (OpenSpec.ofChange fnVarsSpec)

/-- ITS FALSE NEIGHBOUR: 'it returns false'. Refute it at one input. -/
def fnVarsWrong : ChangeSpec := { name := "fnVars", fn := fun _ => fun
  | [d] => { results := [.lit (.bool false)], args := [d] }
  | _ => none }
def FnVarsWrongFalsely : Prop := fnVarsRow.holds Try.pinned (OpenSpec.ofChange fnVarsWrong)

/- THE SECOND FORM. 'bulk': how many values and letters a reading holds, each counted each time it is reached (what is shared counts as often as it is met; a slice's spare places count too). A statement '..UptoSaid' is the law's where the arguments, and the package variables that the reading takes, are together of bulk at most 1048576: NARROWER than '..Said'. Prove '..Said' where nothing that the law and all that it calls make is longer than what came in: it says more and counts as full. Else prove '..UptoSaid'. A law counts once. -/
mutual
def uptoBulk {H : Type} : DataW H → Nat
  | .lit (.string bytes) => bytes.length + 1
  | .lit _ => 1
  | .nil => 1
  | .ptr d => uptoBulk d + 1
  | .slice elems spare => uptoBulkAll elems + uptoBulkAll spare + 1
  | .agg parts => uptoBulkAll parts + 1
  | .iface _ d => uptoBulk d + 1
  | .map entries => uptoBulkEntries entries + 1
  | .held _ => 1
def uptoBulkAll {H : Type} : List (DataW H) → Nat
  | [] => 0
  | d :: r => uptoBulk d + uptoBulkAll r
def uptoBulkEntries {H : Type} : List (Lit × DataW H) → Nat
  | [] => 0
  | x :: r => uptoBulkEntry x + uptoBulkEntries r
def uptoBulkEntry {H : Type} : Lit × DataW H → Nat
  | (.string bytes, d) => bytes.length + uptoBulk d + 1
  | (_, d) => uptoBulk d + 1
 end
def uptoSmall : (H : Type) → List (DataW H) → Bool := fun _ ds => decide (uptoBulkAll ds ≤ 1048576)
def OpenSpec.upto (s : _root_.Go.ChangeSpec) : _root_.Go.OpenSpec := { _root_.Go.OpenSpec.ofChange s with cond := some uptoSmall }

/-- 'laws.FnExactArrange', WHERE WHAT IT READS IS OF BULK AT MOST 1048576: true; the input reads as it did. -/
def fnExactArrangeUptoRow : OpenClaim := { program := "ytffmebjogdemhaa", sum := "2fb9f1653f5ccd7830cb80fdd4857fcc5c46726d432d5b37fc40460661d3cbb9", func := "loop.example/g00012/laws.FnExactArrange", spec := "fnExactArrange", apart := false, narrowed := true }
def FnExactArrangeUptoSaid : Prop := fnExactArrangeUptoRow.holds Try.pinned (OpenSpec.upto fnExactArrangeSpec)

/-- 'laws.FnExactStaticField', WHERE WHAT IT READS IS OF BULK AT MOST 1048576: true; the input reads as it did. -/
def fnExactStaticFieldUptoRow : OpenClaim := { program := "ytffmebjogdemhaa", sum := "2fb9f1653f5ccd7830cb80fdd4857fcc5c46726d432d5b37fc40460661d3cbb9", func := "loop.example/g00012/laws.FnExactStaticField", spec := "fnExactStaticField", apart := false, narrowed := true }
def FnExactStaticFieldUptoSaid : Prop := fnExactStaticFieldUptoRow.holds Try.pinned (OpenSpec.upto fnExactStaticFieldSpec)

/-- 'laws.FnExactChooseVersion', WHERE WHAT IT READS IS OF BULK AT MOST 1048576: true; the input reads as it did. -/
def fnExactChooseVersionUptoRow : OpenClaim := { program := "ytffmebjogdemhaa", sum := "2fb9f1653f5ccd7830cb80fdd4857fcc5c46726d432d5b37fc40460661d3cbb9", func := "loop.example/g00012/laws.FnExactChooseVersion", spec := "fnExactChooseVersion", apart := false, narrowed := true }
def FnExactChooseVersionUptoSaid : Prop := fnExactChooseVersionUptoRow.holds Try.pinned (OpenSpec.upto fnExactChooseVersionSpec)

/-- 'laws.FnExactPutPrefix', WHERE WHAT IT READS IS OF BULK AT MOST 1048576: true; the input reads as it did. -/
def fnExactPutPrefixUptoRow : OpenClaim := { program := "ytffmebjogdemhaa", sum := "2fb9f1653f5ccd7830cb80fdd4857fcc5c46726d432d5b37fc40460661d3cbb9", func := "loop.example/g00012/laws.FnExactPutPrefix", spec := "fnExactPutPrefix", apart := false, narrowed := true }
def FnExactPutPrefixUptoSaid : Prop := fnExactPutPrefixUptoRow.holds Try.pinned (OpenSpec.upto fnExactPutPrefixSpec)

/-- 'laws.FnExactNextStream', WHERE WHAT IT READS IS OF BULK AT MOST 1048576: true; the input reads as it did. -/
def fnExactNextStreamUptoRow : OpenClaim := { program := "ytffmebjogdemhaa", sum := "2fb9f1653f5ccd7830cb80fdd4857fcc5c46726d432d5b37fc40460661d3cbb9", func := "loop.example/g00012/laws.FnExactNextStream", spec := "fnExactNextStream", apart := false, narrowed := true }
def FnExactNextStreamUptoSaid : Prop := fnExactNextStreamUptoRow.holds Try.pinned (OpenSpec.upto fnExactNextStreamSpec)

/-- 'laws.FnExactGetPrefix', WHERE WHAT IT READS IS OF BULK AT MOST 1048576: true; the input reads as it did. -/
def fnExactGetPrefixUptoRow : OpenClaim := { program := "ytffmebjogdemhaa", sum := "2fb9f1653f5ccd7830cb80fdd4857fcc5c46726d432d5b37fc40460661d3cbb9", func := "loop.example/g00012/laws.FnExactGetPrefix", spec := "fnExactGetPrefix", apart := false, narrowed := true }
def FnExactGetPrefixUptoSaid : Prop := fnExactGetPrefixUptoRow.holds Try.pinned (OpenSpec.upto fnExactGetPrefixSpec)

/-- 'laws.FnExactParamsOK', WHERE WHAT IT READS IS OF BULK AT MOST 1048576: true; the input reads as it did. -/
def fnExactParamsOKUptoRow : OpenClaim := { program := "ytffmebjogdemhaa", sum := "2fb9f1653f5ccd7830cb80fdd4857fcc5c46726d432d5b37fc40460661d3cbb9", func := "loop.example/g00012/laws.FnExactParamsOK", spec := "fnExactParamsOK", unfollowed := true, recurses := true, apart := false, narrowed := true }
def FnExactParamsOKUptoSaid : Prop := fnExactParamsOKUptoRow.holds Try.pinned (OpenSpec.upto fnExactParamsOKSpec)

/-- 'laws.FnExactHyperOK', WHERE WHAT IT READS IS OF BULK AT MOST 1048576: true; the input reads as it did. -/
def fnExactHyperOKUptoRow : OpenClaim := { program := "ytffmebjogdemhaa", sum := "2fb9f1653f5ccd7830cb80fdd4857fcc5c46726d432d5b37fc40460661d3cbb9", func := "loop.example/g00012/laws.FnExactHyperOK", spec := "fnExactHyperOK", apart := false, narrowed := true }
def FnExactHyperOKUptoSaid : Prop := fnExactHyperOKUptoRow.holds Try.pinned (OpenSpec.upto fnExactHyperOKSpec)

/-- 'laws.FnNext', WHERE WHAT IT READS IS OF BULK AT MOST 1048576: true; the input reads as it did. -/
def fnNextUptoRow : OpenClaim := { program := "ytffmebjogdemhaa", sum := "2fb9f1653f5ccd7830cb80fdd4857fcc5c46726d432d5b37fc40460661d3cbb9", func := "loop.example/g00012/laws.FnNext", spec := "fnNext", apart := false, narrowed := true }
def FnNextUptoSaid : Prop := fnNextUptoRow.holds Try.pinned (OpenSpec.upto fnNextSpec)

/-- 'laws.FnRecvPrefix', WHERE WHAT IT READS IS OF BULK AT MOST 1048576: true; the input reads as it did. -/
def fnRecvPrefixUptoRow : OpenClaim := { program := "ytffmebjogdemhaa", sum := "2fb9f1653f5ccd7830cb80fdd4857fcc5c46726d432d5b37fc40460661d3cbb9", func := "loop.example/g00012/laws.FnRecvPrefix", spec := "fnRecvPrefix", apart := false, narrowed := true }
def FnRecvPrefixUptoSaid : Prop := fnRecvPrefixUptoRow.holds Try.pinned (OpenSpec.upto fnRecvPrefixSpec)

/-- 'laws.FnPrefix', WHERE WHAT IT READS IS OF BULK AT MOST 1048576: true; the input reads as it did. -/
def fnPrefixUptoRow : OpenClaim := { program := "ytffmebjogdemhaa", sum := "2fb9f1653f5ccd7830cb80fdd4857fcc5c46726d432d5b37fc40460661d3cbb9", func := "loop.example/g00012/laws.FnPrefix", spec := "fnPrefix", apart := false, narrowed := true }
def FnPrefixUptoSaid : Prop := fnPrefixUptoRow.holds Try.pinned (OpenSpec.upto fnPrefixSpec)

/-- 'laws.FnVars', WHERE WHAT IT READS IS OF BULK AT MOST 1048576: true; the input reads as it did. -/
def fnVarsUptoRow : OpenClaim := { program := "ytffmebjogdemhaa", sum := "2fb9f1653f5ccd7830cb80fdd4857fcc5c46726d432d5b37fc40460661d3cbb9", func := "loop.example/g00012/laws.FnVars", spec := "fnVars", unfollowed := true, recurses := true, apart := false, narrowed := true }
def FnVarsUptoSaid : Prop := fnVarsUptoRow.holds Try.pinned (OpenSpec.upto fnVarsSpec)

end Rows
end Go.Proofs.Ytffmebjogdemhaa
