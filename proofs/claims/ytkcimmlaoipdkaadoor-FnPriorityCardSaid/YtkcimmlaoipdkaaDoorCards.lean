/-
  DERIVED. GIVEN WITH THE SEED: THE CARDS: each row of YtkcimmlaoipdkaaDoorRows.lean that lists a variable, with what it lists TIED to the program's text (the seventh form; the later family's looks); each row that meets fmt, with fmt's text TOLD by the authors' own Lean function (tested against real Go, not proved from fmt's source: count such statements apart). THE CARD IS WHAT COUNTS. Prove the row's statement (the work); the ties are given (YtkcimmlaoipdkaaDoorTie.lean); close each card by the builder's one call (the guide's Derived/Test/ToyasCard.lean, 'card_holds'). Laid BY PROGRAM, IN A SANDBOX (cutbox-door.mjs). By AI agents, Wed Nov 11 2026. No macro, syntax, notation, axiom, sorry.
-/
import Derived.Test.YtkcimmlaoipdkaaDoorRows
import GoSem.ClaimSeven
namespace Go.Proofs.YtkcimmlaoipdkaaDoor
namespace Rows

/-- THE TIED CARD OF 'laws.FnExactPriorityText'. -/
def fnExactPriorityTextCard : Claim7 := { stood := { row := fnExactPriorityTextRow, standIns := [], harness := (true, "d4a57c9822ab3e003a9fbad9b729fd1aa31dbac06d6e0c77ca9f5a74743d4765"), looks := true }, kinds := [], alts := [], laidByText := true, laidKinds := [.data, .data, .data], laidTests := true, laidLooks := .later }
def FnExactPriorityTextCardSaid : Prop := Claim7.holds Tryd.pinned (.plain (OpenSpec.ofChange fnExactPriorityTextSpec)) fnExactPriorityTextCard

/-- THE TIED CARD OF 'laws.FnExactReadPriority'. -/
def fnExactReadPriorityCard : Claim7 := { stood := { row := fnExactReadPriorityRow, standIns := [], harness := (true, "d4a57c9822ab3e003a9fbad9b729fd1aa31dbac06d6e0c77ca9f5a74743d4765"), looks := true }, kinds := [], alts := [], laidByText := true, laidKinds := [.data, .pinned], laidTests := true, laidLooks := .later }
def FnExactReadPriorityCardSaid : Prop := Claim7.holds Tryd.pinned (.plain (OpenSpec.ofChange fnExactReadPrioritySpec)) fnExactReadPriorityCard

/-- THE TIED CARD OF 'laws.FnPriority'. -/
def fnPriorityCard : Claim7 := { stood := { row := fnPriorityRow, standIns := [], harness := (true, "d4a57c9822ab3e003a9fbad9b729fd1aa31dbac06d6e0c77ca9f5a74743d4765"), looks := true }, kinds := [], alts := [], laidByText := true, laidKinds := [.data, .data, .data, .data, .pinned], laidTests := true, laidLooks := .later }
def FnPriorityCardSaid : Prop := Claim7.holds Tryd.pinned (.plain (OpenSpec.ofChange fnPrioritySpec)) fnPriorityCard

/-- THE TIED CARD OF 'laws.FnExactLengthOf'. -/
def fnExactLengthOfCard : Claim7 := { stood := { row := fnExactLengthOfRow, standIns := [], harness := (true, "d4a57c9822ab3e003a9fbad9b729fd1aa31dbac06d6e0c77ca9f5a74743d4765"), looks := true }, kinds := [], alts := [], laidByText := true, laidKinds := [.data, .data, .data, .sentinel, .sentinel], laidTests := true, laidLooks := .later }
def FnExactLengthOfCardSaid : Prop := Claim7.holds Tryd.pinned (.plain (OpenSpec.ofChange fnExactLengthOfSpec)) fnExactLengthOfCard

/-- THE TIED CARD OF 'laws.FnExactRequestFields'. -/
def fnExactRequestFieldsCard : Claim7 := { stood := { row := fnExactRequestFieldsRow, standIns := [], harness := (true, "d4a57c9822ab3e003a9fbad9b729fd1aa31dbac06d6e0c77ca9f5a74743d4765"), looks := true }, kinds := [], alts := [], laidByText := true, laidKinds := [.data, .data, .data, .sentinel, .sentinel], laidTests := true, laidLooks := .later }
def FnExactRequestFieldsCardSaid : Prop := Claim7.holds Tryd.pinned (.plain (OpenSpec.ofChange fnExactRequestFieldsSpec)) fnExactRequestFieldsCard

/-- THE TIED CARD OF 'laws.FnExactRequestOf'. -/
def fnExactRequestOfCard : Claim7 := { stood := { row := fnExactRequestOfRow, standIns := [], harness := (true, "d4a57c9822ab3e003a9fbad9b729fd1aa31dbac06d6e0c77ca9f5a74743d4765"), looks := true }, kinds := [], alts := [], laidByText := true, laidKinds := [.data, .data, .data, .sentinel, .sentinel], laidTests := true, laidLooks := .later }
def FnExactRequestOfCardSaid : Prop := Claim7.holds Tryd.pinned (.plain (OpenSpec.ofChange fnExactRequestOfSpec)) fnExactRequestOfCard

/-- THE TIED CARD OF 'laws.FnExactResponseFields'. -/
def fnExactResponseFieldsCard : Claim7 := { stood := { row := fnExactResponseFieldsRow, standIns := [], harness := (true, "d4a57c9822ab3e003a9fbad9b729fd1aa31dbac06d6e0c77ca9f5a74743d4765"), looks := true }, kinds := [], alts := [], laidByText := true, laidKinds := [.data, .data, .data, .sentinel, .sentinel], laidTests := true, laidLooks := .later }
def FnExactResponseFieldsCardSaid : Prop := Claim7.holds Tryd.pinned (.plain (OpenSpec.ofChange fnExactResponseFieldsSpec)) fnExactResponseFieldsCard

/-- THE TIED CARD OF 'laws.FnExactResponseOf'. -/
def fnExactResponseOfCard : Claim7 := { stood := { row := fnExactResponseOfRow, standIns := [], harness := (true, "d4a57c9822ab3e003a9fbad9b729fd1aa31dbac06d6e0c77ca9f5a74743d4765"), looks := true }, kinds := [], alts := [], laidByText := true, laidKinds := [.data, .data, .data, .sentinel, .sentinel], laidTests := true, laidLooks := .later }
def FnExactResponseOfCardSaid : Prop := Claim7.holds Tryd.pinned (.plain (OpenSpec.ofChange fnExactResponseOfSpec)) fnExactResponseOfCard

/-- THE SECOND FORM's CARD OF 'laws.FnExactPriorityText'. -/
def fnExactPriorityTextUptoCard : Claim7 := { stood := { row := fnExactPriorityTextUptoRow, standIns := [], harness := (true, "d4a57c9822ab3e003a9fbad9b729fd1aa31dbac06d6e0c77ca9f5a74743d4765"), looks := true }, kinds := [], alts := [], laidByText := true, laidKinds := [.data, .data, .data], laidTests := true, laidLooks := .later }
def FnExactPriorityTextUptoCardSaid : Prop := Claim7.holds Tryd.pinned (.plain (OpenSpec.upto fnExactPriorityTextSpec)) fnExactPriorityTextUptoCard

/-- THE SECOND FORM's CARD OF 'laws.FnExactReadPriority'. -/
def fnExactReadPriorityUptoCard : Claim7 := { stood := { row := fnExactReadPriorityUptoRow, standIns := [], harness := (true, "d4a57c9822ab3e003a9fbad9b729fd1aa31dbac06d6e0c77ca9f5a74743d4765"), looks := true }, kinds := [], alts := [], laidByText := true, laidKinds := [.data, .pinned], laidTests := true, laidLooks := .later }
def FnExactReadPriorityUptoCardSaid : Prop := Claim7.holds Tryd.pinned (.plain (OpenSpec.upto fnExactReadPrioritySpec)) fnExactReadPriorityUptoCard

/-- THE SECOND FORM's CARD OF 'laws.FnPriority'. -/
def fnPriorityUptoCard : Claim7 := { stood := { row := fnPriorityUptoRow, standIns := [], harness := (true, "d4a57c9822ab3e003a9fbad9b729fd1aa31dbac06d6e0c77ca9f5a74743d4765"), looks := true }, kinds := [], alts := [], laidByText := true, laidKinds := [.data, .data, .data, .data, .pinned], laidTests := true, laidLooks := .later }
def FnPriorityUptoCardSaid : Prop := Claim7.holds Tryd.pinned (.plain (OpenSpec.upto fnPrioritySpec)) fnPriorityUptoCard

/-- THE SECOND FORM's CARD OF 'laws.FnExactLengthOf'. -/
def fnExactLengthOfUptoCard : Claim7 := { stood := { row := fnExactLengthOfUptoRow, standIns := [], harness := (true, "d4a57c9822ab3e003a9fbad9b729fd1aa31dbac06d6e0c77ca9f5a74743d4765"), looks := true }, kinds := [], alts := [], laidByText := true, laidKinds := [.data, .data, .data, .sentinel, .sentinel], laidTests := true, laidLooks := .later }
def FnExactLengthOfUptoCardSaid : Prop := Claim7.holds Tryd.pinned (.plain (OpenSpec.upto fnExactLengthOfSpec)) fnExactLengthOfUptoCard

/-- THE SECOND FORM's CARD OF 'laws.FnExactRequestFields'. -/
def fnExactRequestFieldsUptoCard : Claim7 := { stood := { row := fnExactRequestFieldsUptoRow, standIns := [], harness := (true, "d4a57c9822ab3e003a9fbad9b729fd1aa31dbac06d6e0c77ca9f5a74743d4765"), looks := true }, kinds := [], alts := [], laidByText := true, laidKinds := [.data, .data, .data, .sentinel, .sentinel], laidTests := true, laidLooks := .later }
def FnExactRequestFieldsUptoCardSaid : Prop := Claim7.holds Tryd.pinned (.plain (OpenSpec.upto fnExactRequestFieldsSpec)) fnExactRequestFieldsUptoCard

/-- THE SECOND FORM's CARD OF 'laws.FnExactRequestOf'. -/
def fnExactRequestOfUptoCard : Claim7 := { stood := { row := fnExactRequestOfUptoRow, standIns := [], harness := (true, "d4a57c9822ab3e003a9fbad9b729fd1aa31dbac06d6e0c77ca9f5a74743d4765"), looks := true }, kinds := [], alts := [], laidByText := true, laidKinds := [.data, .data, .data, .sentinel, .sentinel], laidTests := true, laidLooks := .later }
def FnExactRequestOfUptoCardSaid : Prop := Claim7.holds Tryd.pinned (.plain (OpenSpec.upto fnExactRequestOfSpec)) fnExactRequestOfUptoCard

/-- THE SECOND FORM's CARD OF 'laws.FnExactResponseFields'. -/
def fnExactResponseFieldsUptoCard : Claim7 := { stood := { row := fnExactResponseFieldsUptoRow, standIns := [], harness := (true, "d4a57c9822ab3e003a9fbad9b729fd1aa31dbac06d6e0c77ca9f5a74743d4765"), looks := true }, kinds := [], alts := [], laidByText := true, laidKinds := [.data, .data, .data, .sentinel, .sentinel], laidTests := true, laidLooks := .later }
def FnExactResponseFieldsUptoCardSaid : Prop := Claim7.holds Tryd.pinned (.plain (OpenSpec.upto fnExactResponseFieldsSpec)) fnExactResponseFieldsUptoCard

/-- THE SECOND FORM's CARD OF 'laws.FnExactResponseOf'. -/
def fnExactResponseOfUptoCard : Claim7 := { stood := { row := fnExactResponseOfUptoRow, standIns := [], harness := (true, "d4a57c9822ab3e003a9fbad9b729fd1aa31dbac06d6e0c77ca9f5a74743d4765"), looks := true }, kinds := [], alts := [], laidByText := true, laidKinds := [.data, .data, .data, .sentinel, .sentinel], laidTests := true, laidLooks := .later }
def FnExactResponseOfUptoCardSaid : Prop := Claim7.holds Tryd.pinned (.plain (OpenSpec.upto fnExactResponseOfSpec)) fnExactResponseOfUptoCard
end Rows
end Go.Proofs.YtkcimmlaoipdkaaDoor
