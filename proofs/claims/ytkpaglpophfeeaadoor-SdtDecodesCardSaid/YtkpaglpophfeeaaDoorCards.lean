/-
  DERIVED. GIVEN WITH THE SEED: THE CARDS: each row of YtkpaglpophfeeaaDoorRows.lean that lists a variable, with what it lists TIED to the program's text (the seventh form; the later family's looks); each row that meets fmt, with fmt's text TOLD by the authors' own Lean function (tested against real Go, not proved from fmt's source: count such statements apart). THE CARD IS WHAT COUNTS. Prove the row's statement (the work); the ties are given (YtkpaglpophfeeaaDoorTie.lean); close each card by the builder's one call (the guide's Derived/Test/ToyasCard.lean, 'card_holds'). Laid BY PROGRAM, IN A SANDBOX (cutbox-door.mjs). By AI agents, Wed Nov 11 2026. No macro, syntax, notation, axiom, sorry.
-/
import Derived.Test.YtkpaglpophfeeaaDoorRows
import GoSem.ClaimSeven
namespace Go.Proofs.YtkpaglpophfeeaaDoor
namespace Rows

/-- THE TIED CARD OF 'platformfwlaw07.SdtEncodes'. -/
def sdtEncodesCard : Claim7 := { stood := { row := sdtEncodesRow, standIns := [], harness := (true, "638b674f36aaf655cb875a0461b4514b930e17fef20d62056a4fda08835a7d0e"), looks := false }, kinds := [], alts := [], laidByText := true, laidKinds := [.data, .pinned], laidTests := true, laidLooks := .later }
def SdtEncodesCardSaid : Prop := Claim7.holds Tryd.pinned (.plain (OpenSpec.ofChange sdtEncodesSpec)) sdtEncodesCard

/-- THE TIED CARD OF 'platformfwlaw07.SdtRoundTrip'. -/
def sdtRoundTripCard : Claim7 := { stood := { row := sdtRoundTripRow, standIns := [], harness := (true, "638b674f36aaf655cb875a0461b4514b930e17fef20d62056a4fda08835a7d0e"), looks := false }, kinds := [], alts := [], laidByText := true, laidKinds := [.data, .pinned], laidTests := true, laidLooks := .later }
def SdtRoundTripCardSaid : Prop := Claim7.holds Tryd.pinned (.plain (OpenSpec.ofChange sdtRoundTripSpec)) sdtRoundTripCard

/-- THE TIED CARD OF 'platformfwlaw07.SdtDetectsChanges'. -/
def sdtDetectsChangesCard : Claim7 := { stood := { row := sdtDetectsChangesRow, standIns := [], harness := (true, "638b674f36aaf655cb875a0461b4514b930e17fef20d62056a4fda08835a7d0e"), looks := false }, kinds := [], alts := [], laidByText := true, laidKinds := [.data, .pinned], laidTests := true, laidLooks := .later }
def SdtDetectsChangesCardSaid : Prop := Claim7.holds Tryd.pinned (.plain (OpenSpec.ofChange sdtDetectsChangesSpec)) sdtDetectsChangesCard

/-- THE TIED CARD OF 'platformfwlaw07.SdtDecodes'. -/
def sdtDecodesCard : Claim7 := { stood := { row := sdtDecodesRow, standIns := [], harness := (true, "638b674f36aaf655cb875a0461b4514b930e17fef20d62056a4fda08835a7d0e"), looks := false }, kinds := [], alts := [], laidByText := true, laidKinds := [.data, .pinned], laidTests := true, laidLooks := .later }
def SdtDecodesCardSaid : Prop := Claim7.holds Tryd.pinned (.plain (OpenSpec.ofChange sdtDecodesSpec)) sdtDecodesCard

/-- THE TIED CARD OF 'platformfwlaw07.SdtSetMutations'. -/
def sdtSetMutationsCard : Claim7 := { stood := { row := sdtSetMutationsRow, standIns := [], harness := (true, "638b674f36aaf655cb875a0461b4514b930e17fef20d62056a4fda08835a7d0e"), looks := false }, kinds := [], alts := [], laidByText := true, laidKinds := [.data, .pinned], laidTests := true, laidLooks := .later }
def SdtSetMutationsCardSaid : Prop := Claim7.holds Tryd.pinned (.plain (OpenSpec.ofChange sdtSetMutationsSpec)) sdtSetMutationsCard

/-- THE TIED CARD OF 'platformfwlaw07.SdtSets'. -/
def sdtSetsCard : Claim7 := { stood := { row := sdtSetsRow, standIns := [], harness := (true, "638b674f36aaf655cb875a0461b4514b930e17fef20d62056a4fda08835a7d0e"), looks := false }, kinds := [], alts := [], laidByText := true, laidKinds := [.data, .pinned], laidTests := true, laidLooks := .later }
def SdtSetsCardSaid : Prop := Claim7.holds Tryd.pinned (.plain (OpenSpec.ofChange sdtSetsSpec)) sdtSetsCard

/-- THE SECOND FORM's CARD OF 'platformfwlaw07.SdtEncodes'. -/
def sdtEncodesUptoCard : Claim7 := { stood := { row := sdtEncodesUptoRow, standIns := [], harness := (true, "638b674f36aaf655cb875a0461b4514b930e17fef20d62056a4fda08835a7d0e"), looks := false }, kinds := [], alts := [], laidByText := true, laidKinds := [.data, .pinned], laidTests := true, laidLooks := .later }
def SdtEncodesUptoCardSaid : Prop := Claim7.holds Tryd.pinned (.plain (OpenSpec.upto sdtEncodesSpec)) sdtEncodesUptoCard

/-- THE SECOND FORM's CARD OF 'platformfwlaw07.SdtRoundTrip'. -/
def sdtRoundTripUptoCard : Claim7 := { stood := { row := sdtRoundTripUptoRow, standIns := [], harness := (true, "638b674f36aaf655cb875a0461b4514b930e17fef20d62056a4fda08835a7d0e"), looks := false }, kinds := [], alts := [], laidByText := true, laidKinds := [.data, .pinned], laidTests := true, laidLooks := .later }
def SdtRoundTripUptoCardSaid : Prop := Claim7.holds Tryd.pinned (.plain (OpenSpec.upto sdtRoundTripSpec)) sdtRoundTripUptoCard

/-- THE SECOND FORM's CARD OF 'platformfwlaw07.SdtDetectsChanges'. -/
def sdtDetectsChangesUptoCard : Claim7 := { stood := { row := sdtDetectsChangesUptoRow, standIns := [], harness := (true, "638b674f36aaf655cb875a0461b4514b930e17fef20d62056a4fda08835a7d0e"), looks := false }, kinds := [], alts := [], laidByText := true, laidKinds := [.data, .pinned], laidTests := true, laidLooks := .later }
def SdtDetectsChangesUptoCardSaid : Prop := Claim7.holds Tryd.pinned (.plain (OpenSpec.upto sdtDetectsChangesSpec)) sdtDetectsChangesUptoCard

/-- THE SECOND FORM's CARD OF 'platformfwlaw07.SdtDecodes'. -/
def sdtDecodesUptoCard : Claim7 := { stood := { row := sdtDecodesUptoRow, standIns := [], harness := (true, "638b674f36aaf655cb875a0461b4514b930e17fef20d62056a4fda08835a7d0e"), looks := false }, kinds := [], alts := [], laidByText := true, laidKinds := [.data, .pinned], laidTests := true, laidLooks := .later }
def SdtDecodesUptoCardSaid : Prop := Claim7.holds Tryd.pinned (.plain (OpenSpec.upto sdtDecodesSpec)) sdtDecodesUptoCard

/-- THE SECOND FORM's CARD OF 'platformfwlaw07.SdtSetMutations'. -/
def sdtSetMutationsUptoCard : Claim7 := { stood := { row := sdtSetMutationsUptoRow, standIns := [], harness := (true, "638b674f36aaf655cb875a0461b4514b930e17fef20d62056a4fda08835a7d0e"), looks := false }, kinds := [], alts := [], laidByText := true, laidKinds := [.data, .pinned], laidTests := true, laidLooks := .later }
def SdtSetMutationsUptoCardSaid : Prop := Claim7.holds Tryd.pinned (.plain (OpenSpec.upto sdtSetMutationsSpec)) sdtSetMutationsUptoCard

/-- THE SECOND FORM's CARD OF 'platformfwlaw07.SdtSets'. -/
def sdtSetsUptoCard : Claim7 := { stood := { row := sdtSetsUptoRow, standIns := [], harness := (true, "638b674f36aaf655cb875a0461b4514b930e17fef20d62056a4fda08835a7d0e"), looks := false }, kinds := [], alts := [], laidByText := true, laidKinds := [.data, .pinned], laidTests := true, laidLooks := .later }
def SdtSetsUptoCardSaid : Prop := Claim7.holds Tryd.pinned (.plain (OpenSpec.upto sdtSetsSpec)) sdtSetsUptoCard
end Rows
end Go.Proofs.YtkpaglpophfeeaaDoor
