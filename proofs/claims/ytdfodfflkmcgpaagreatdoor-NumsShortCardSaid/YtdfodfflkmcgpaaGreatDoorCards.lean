/-
  DERIVED. GIVEN WITH THE SEED: THE CARDS: each row of YtdfodfflkmcgpaaGreatDoorRows.lean that lists a variable, with what it lists TIED to the program's text (the seventh form; the later family's looks); each row that meets fmt, with fmt's text TOLD by the authors' own Lean function (tested against real Go, not proved from fmt's source: count such statements apart). THE CARD IS WHAT COUNTS. Prove the row's statement (the work); the ties are given (YtdfodfflkmcgpaaGreatDoorTie.lean); close each card by the builder's one call (the guide's Derived/Test/ToyasCard.lean, 'card_holds'). Laid BY PROGRAM, IN A SANDBOX (cutbox-door.mjs). By AI agents, Wed Nov 11 2026. No macro, syntax, notation, axiom, sorry.
-/
import Derived.Test.YtdfodfflkmcgpaaGreatDoorRows
import GoSem.ClaimSeven
namespace Go.Proofs.YtdfodfflkmcgpaaGreatDoor
namespace Rows

/-- THE TIED CARD OF 'lexiconlaw03.NumsNumbers'. -/
def numsNumbersCard : Claim7 := { stood := { row := numsNumbersRow, standIns := [], harness := (true, "bfedfc95734c8291edfc8b4fbd2e83eac56cf3e67b9421195415f0031cce7b93"), looks := true }, kinds := [], alts := [], laidByText := true, laidKinds := [.data, .data, .widerDeep, .widerDeep, .data, .data, .data, .data, .data, .data, .sentinel, .sentinel, .pinned, .pinned, .pinned], laidTests := true, laidLooks := .later }
def NumsNumbersCardSaid : Prop := Claim7.holds Tryz.pinned (.plain (OpenSpec.ofChange numsNumbersSpec)) numsNumbersCard

/-- THE TIED CARD OF 'lexiconlaw03.NumsShows'. -/
def numsShowsCard : Claim7 := { stood := { row := numsShowsRow, standIns := [], harness := (true, "bfedfc95734c8291edfc8b4fbd2e83eac56cf3e67b9421195415f0031cce7b93"), looks := true }, kinds := [], alts := [], laidByText := true, laidKinds := [.data, .data, .widerDeep, .widerDeep, .data, .data, .data, .data, .data, .data, .sentinel, .sentinel, .pinned, .pinned, .pinned], laidTests := true, laidLooks := .later }
def NumsShowsCardSaid : Prop := Claim7.holds Tryz.pinned (.plain (OpenSpec.ofChange numsShowsSpec)) numsShowsCard

/-- THE TIED CARD OF 'lexiconlaw03.NumsOrders'. -/
def numsOrdersCard : Claim7 := { stood := { row := numsOrdersRow, standIns := [], harness := (true, "bfedfc95734c8291edfc8b4fbd2e83eac56cf3e67b9421195415f0031cce7b93"), looks := true }, kinds := [], alts := [], laidByText := true, laidKinds := [.data, .data, .widerDeep, .widerDeep, .data, .data, .data, .data, .data, .data, .sentinel, .sentinel, .pinned, .pinned, .pinned], laidTests := true, laidLooks := .later }
def NumsOrdersCardSaid : Prop := Claim7.holds Tryz.pinned (.plain (OpenSpec.ofChange numsOrdersSpec)) numsOrdersCard

/-- THE TIED CARD OF 'lexiconlaw03.NumsBack'. -/
def numsBackCard : Claim7 := { stood := { row := numsBackRow, standIns := [], harness := (true, "bfedfc95734c8291edfc8b4fbd2e83eac56cf3e67b9421195415f0031cce7b93"), looks := true }, kinds := [], alts := [], laidByText := true, laidKinds := [.data, .data, .widerDeep, .widerDeep, .data, .data, .data, .data, .data, .data, .sentinel, .sentinel, .pinned, .pinned, .pinned], laidTests := true, laidLooks := .later }
def NumsBackCardSaid : Prop := Claim7.holds Tryz.pinned (.plain (OpenSpec.ofChange numsBackSpec)) numsBackCard

/-- THE TIED CARD OF 'lexiconlaw03.NumsShort'. -/
def numsShortCard : Claim7 := { stood := { row := numsShortRow, standIns := [], harness := (true, "bfedfc95734c8291edfc8b4fbd2e83eac56cf3e67b9421195415f0031cce7b93"), looks := true }, kinds := [], alts := [], laidByText := true, laidKinds := [.data, .data, .widerDeep, .widerDeep, .data, .data, .data, .data, .data, .data, .sentinel, .sentinel, .pinned, .pinned, .pinned], laidTests := true, laidLooks := .later }
def NumsShortCardSaid : Prop := Claim7.holds Tryz.pinned (.plain (OpenSpec.ofChange numsShortSpec)) numsShortCard

/-- THE TIED CARD OF 'lexiconlaw03.NumsRises'. -/
def numsRisesCard : Claim7 := { stood := { row := numsRisesRow, standIns := [], harness := (true, "bfedfc95734c8291edfc8b4fbd2e83eac56cf3e67b9421195415f0031cce7b93"), looks := true }, kinds := [], alts := [], laidByText := true, laidKinds := [.data, .data, .widerDeep, .widerDeep, .data, .data, .data, .data, .data, .data, .sentinel, .sentinel, .pinned, .pinned, .pinned], laidTests := true, laidLooks := .later }
def NumsRisesCardSaid : Prop := Claim7.holds Tryz.pinned (.plain (OpenSpec.ofChange numsRisesSpec)) numsRisesCard

/-- THE TIED CARD OF 'lexiconlaw03.NumsShifted'. -/
def numsShiftedCard : Claim7 := { stood := { row := numsShiftedRow, standIns := [], harness := (true, "bfedfc95734c8291edfc8b4fbd2e83eac56cf3e67b9421195415f0031cce7b93"), looks := true }, kinds := [], alts := [], laidByText := true, laidKinds := [.data, .data, .widerDeep, .widerDeep, .data, .data, .data, .data, .data, .data, .sentinel, .sentinel, .pinned, .pinned, .pinned], laidTests := true, laidLooks := .later }
def NumsShiftedCardSaid : Prop := Claim7.holds Tryz.pinned (.plain (OpenSpec.ofChange numsShiftedSpec)) numsShiftedCard

/-- THE TIED CARD OF 'lexiconlaw03.NumsWhole'. -/
def numsWholeCard : Claim7 := { stood := { row := numsWholeRow, standIns := [], harness := (true, "bfedfc95734c8291edfc8b4fbd2e83eac56cf3e67b9421195415f0031cce7b93"), looks := true }, kinds := [], alts := [], laidByText := true, laidKinds := [.data, .data, .widerDeep, .widerDeep, .data, .data, .data, .data, .data, .data, .sentinel, .sentinel, .pinned, .pinned, .pinned], laidTests := true, laidLooks := .later }
def NumsWholeCardSaid : Prop := Claim7.holds Tryz.pinned (.plain (OpenSpec.ofChange numsWholeSpec)) numsWholeCard

/-- THE TIED CARD OF 'lexiconlaw03.NumsNarrowed'. -/
def numsNarrowedCard : Claim7 := { stood := { row := numsNarrowedRow, standIns := [], harness := (true, "bfedfc95734c8291edfc8b4fbd2e83eac56cf3e67b9421195415f0031cce7b93"), looks := true }, kinds := [], alts := [], laidByText := true, laidKinds := [.data, .data, .widerDeep, .widerDeep, .data, .data, .data, .data, .data, .data, .sentinel, .sentinel, .pinned, .pinned, .pinned], laidTests := true, laidLooks := .later }
def NumsNarrowedCardSaid : Prop := Claim7.holds Tryz.pinned (.plain (OpenSpec.ofChange numsNarrowedSpec)) numsNarrowedCard

/-- THE TIED CARD OF 'lexiconlaw03.NumsRow'. -/
def numsRowCard : Claim7 := { stood := { row := numsRowRow, standIns := [], harness := (true, "bfedfc95734c8291edfc8b4fbd2e83eac56cf3e67b9421195415f0031cce7b93"), looks := true }, kinds := [], alts := [], laidByText := true, laidKinds := [.data, .data, .widerDeep, .widerDeep, .data, .data, .data, .data, .data, .data, .sentinel, .sentinel, .pinned, .pinned, .pinned], laidTests := true, laidLooks := .later }
def NumsRowCardSaid : Prop := Claim7.holds Tryz.pinned (.plain (OpenSpec.ofChange numsRowSpec)) numsRowCard

/-- THE TIED CARD OF 'lexiconlaw03.NumsCut'. -/
def numsCutCard : Claim7 := { stood := { row := numsCutRow, standIns := [], harness := (true, "bfedfc95734c8291edfc8b4fbd2e83eac56cf3e67b9421195415f0031cce7b93"), looks := true }, kinds := [], alts := [], laidByText := true, laidKinds := [.data, .data, .widerDeep, .widerDeep, .data, .data, .data, .data, .data, .data, .sentinel, .sentinel, .pinned, .pinned, .pinned], laidTests := true, laidLooks := .later }
def NumsCutCardSaid : Prop := Claim7.holds Tryz.pinned (.plain (OpenSpec.ofChange numsCutSpec)) numsCutCard

/-- THE TIED CARD OF 'lexiconlaw03.NumsLength'. -/
def numsLengthCard : Claim7 := { stood := { row := numsLengthRow, standIns := [], harness := (true, "bfedfc95734c8291edfc8b4fbd2e83eac56cf3e67b9421195415f0031cce7b93"), looks := true }, kinds := [], alts := [], laidByText := true, laidKinds := [.data, .data, .widerDeep, .widerDeep, .data, .data, .data, .data, .data, .data, .sentinel, .sentinel, .pinned, .pinned, .pinned], laidTests := true, laidLooks := .later }
def NumsLengthCardSaid : Prop := Claim7.holds Tryz.pinned (.plain (OpenSpec.ofChange numsLengthSpec)) numsLengthCard

/-- THE SECOND FORM's CARD OF 'lexiconlaw03.NumsNumbers'. -/
def numsNumbersUptoCard : Claim7 := { stood := { row := numsNumbersUptoRow, standIns := [], harness := (true, "bfedfc95734c8291edfc8b4fbd2e83eac56cf3e67b9421195415f0031cce7b93"), looks := true }, kinds := [], alts := [], laidByText := true, laidKinds := [.data, .data, .widerDeep, .widerDeep, .data, .data, .data, .data, .data, .data, .sentinel, .sentinel, .pinned, .pinned, .pinned], laidTests := true, laidLooks := .later }
def NumsNumbersUptoCardSaid : Prop := Claim7.holds Tryz.pinned (.plain (OpenSpec.upto numsNumbersSpec)) numsNumbersUptoCard

/-- THE SECOND FORM's CARD OF 'lexiconlaw03.NumsShows'. -/
def numsShowsUptoCard : Claim7 := { stood := { row := numsShowsUptoRow, standIns := [], harness := (true, "bfedfc95734c8291edfc8b4fbd2e83eac56cf3e67b9421195415f0031cce7b93"), looks := true }, kinds := [], alts := [], laidByText := true, laidKinds := [.data, .data, .widerDeep, .widerDeep, .data, .data, .data, .data, .data, .data, .sentinel, .sentinel, .pinned, .pinned, .pinned], laidTests := true, laidLooks := .later }
def NumsShowsUptoCardSaid : Prop := Claim7.holds Tryz.pinned (.plain (OpenSpec.upto numsShowsSpec)) numsShowsUptoCard

/-- THE SECOND FORM's CARD OF 'lexiconlaw03.NumsOrders'. -/
def numsOrdersUptoCard : Claim7 := { stood := { row := numsOrdersUptoRow, standIns := [], harness := (true, "bfedfc95734c8291edfc8b4fbd2e83eac56cf3e67b9421195415f0031cce7b93"), looks := true }, kinds := [], alts := [], laidByText := true, laidKinds := [.data, .data, .widerDeep, .widerDeep, .data, .data, .data, .data, .data, .data, .sentinel, .sentinel, .pinned, .pinned, .pinned], laidTests := true, laidLooks := .later }
def NumsOrdersUptoCardSaid : Prop := Claim7.holds Tryz.pinned (.plain (OpenSpec.upto numsOrdersSpec)) numsOrdersUptoCard

/-- THE SECOND FORM's CARD OF 'lexiconlaw03.NumsBack'. -/
def numsBackUptoCard : Claim7 := { stood := { row := numsBackUptoRow, standIns := [], harness := (true, "bfedfc95734c8291edfc8b4fbd2e83eac56cf3e67b9421195415f0031cce7b93"), looks := true }, kinds := [], alts := [], laidByText := true, laidKinds := [.data, .data, .widerDeep, .widerDeep, .data, .data, .data, .data, .data, .data, .sentinel, .sentinel, .pinned, .pinned, .pinned], laidTests := true, laidLooks := .later }
def NumsBackUptoCardSaid : Prop := Claim7.holds Tryz.pinned (.plain (OpenSpec.upto numsBackSpec)) numsBackUptoCard

/-- THE SECOND FORM's CARD OF 'lexiconlaw03.NumsShort'. -/
def numsShortUptoCard : Claim7 := { stood := { row := numsShortUptoRow, standIns := [], harness := (true, "bfedfc95734c8291edfc8b4fbd2e83eac56cf3e67b9421195415f0031cce7b93"), looks := true }, kinds := [], alts := [], laidByText := true, laidKinds := [.data, .data, .widerDeep, .widerDeep, .data, .data, .data, .data, .data, .data, .sentinel, .sentinel, .pinned, .pinned, .pinned], laidTests := true, laidLooks := .later }
def NumsShortUptoCardSaid : Prop := Claim7.holds Tryz.pinned (.plain (OpenSpec.upto numsShortSpec)) numsShortUptoCard

/-- THE SECOND FORM's CARD OF 'lexiconlaw03.NumsRises'. -/
def numsRisesUptoCard : Claim7 := { stood := { row := numsRisesUptoRow, standIns := [], harness := (true, "bfedfc95734c8291edfc8b4fbd2e83eac56cf3e67b9421195415f0031cce7b93"), looks := true }, kinds := [], alts := [], laidByText := true, laidKinds := [.data, .data, .widerDeep, .widerDeep, .data, .data, .data, .data, .data, .data, .sentinel, .sentinel, .pinned, .pinned, .pinned], laidTests := true, laidLooks := .later }
def NumsRisesUptoCardSaid : Prop := Claim7.holds Tryz.pinned (.plain (OpenSpec.upto numsRisesSpec)) numsRisesUptoCard

/-- THE SECOND FORM's CARD OF 'lexiconlaw03.NumsShifted'. -/
def numsShiftedUptoCard : Claim7 := { stood := { row := numsShiftedUptoRow, standIns := [], harness := (true, "bfedfc95734c8291edfc8b4fbd2e83eac56cf3e67b9421195415f0031cce7b93"), looks := true }, kinds := [], alts := [], laidByText := true, laidKinds := [.data, .data, .widerDeep, .widerDeep, .data, .data, .data, .data, .data, .data, .sentinel, .sentinel, .pinned, .pinned, .pinned], laidTests := true, laidLooks := .later }
def NumsShiftedUptoCardSaid : Prop := Claim7.holds Tryz.pinned (.plain (OpenSpec.upto numsShiftedSpec)) numsShiftedUptoCard

/-- THE SECOND FORM's CARD OF 'lexiconlaw03.NumsWhole'. -/
def numsWholeUptoCard : Claim7 := { stood := { row := numsWholeUptoRow, standIns := [], harness := (true, "bfedfc95734c8291edfc8b4fbd2e83eac56cf3e67b9421195415f0031cce7b93"), looks := true }, kinds := [], alts := [], laidByText := true, laidKinds := [.data, .data, .widerDeep, .widerDeep, .data, .data, .data, .data, .data, .data, .sentinel, .sentinel, .pinned, .pinned, .pinned], laidTests := true, laidLooks := .later }
def NumsWholeUptoCardSaid : Prop := Claim7.holds Tryz.pinned (.plain (OpenSpec.upto numsWholeSpec)) numsWholeUptoCard

/-- THE SECOND FORM's CARD OF 'lexiconlaw03.NumsNarrowed'. -/
def numsNarrowedUptoCard : Claim7 := { stood := { row := numsNarrowedUptoRow, standIns := [], harness := (true, "bfedfc95734c8291edfc8b4fbd2e83eac56cf3e67b9421195415f0031cce7b93"), looks := true }, kinds := [], alts := [], laidByText := true, laidKinds := [.data, .data, .widerDeep, .widerDeep, .data, .data, .data, .data, .data, .data, .sentinel, .sentinel, .pinned, .pinned, .pinned], laidTests := true, laidLooks := .later }
def NumsNarrowedUptoCardSaid : Prop := Claim7.holds Tryz.pinned (.plain (OpenSpec.upto numsNarrowedSpec)) numsNarrowedUptoCard

/-- THE SECOND FORM's CARD OF 'lexiconlaw03.NumsRow'. -/
def numsRowUptoCard : Claim7 := { stood := { row := numsRowUptoRow, standIns := [], harness := (true, "bfedfc95734c8291edfc8b4fbd2e83eac56cf3e67b9421195415f0031cce7b93"), looks := true }, kinds := [], alts := [], laidByText := true, laidKinds := [.data, .data, .widerDeep, .widerDeep, .data, .data, .data, .data, .data, .data, .sentinel, .sentinel, .pinned, .pinned, .pinned], laidTests := true, laidLooks := .later }
def NumsRowUptoCardSaid : Prop := Claim7.holds Tryz.pinned (.plain (OpenSpec.upto numsRowSpec)) numsRowUptoCard

/-- THE SECOND FORM's CARD OF 'lexiconlaw03.NumsCut'. -/
def numsCutUptoCard : Claim7 := { stood := { row := numsCutUptoRow, standIns := [], harness := (true, "bfedfc95734c8291edfc8b4fbd2e83eac56cf3e67b9421195415f0031cce7b93"), looks := true }, kinds := [], alts := [], laidByText := true, laidKinds := [.data, .data, .widerDeep, .widerDeep, .data, .data, .data, .data, .data, .data, .sentinel, .sentinel, .pinned, .pinned, .pinned], laidTests := true, laidLooks := .later }
def NumsCutUptoCardSaid : Prop := Claim7.holds Tryz.pinned (.plain (OpenSpec.upto numsCutSpec)) numsCutUptoCard

/-- THE SECOND FORM's CARD OF 'lexiconlaw03.NumsLength'. -/
def numsLengthUptoCard : Claim7 := { stood := { row := numsLengthUptoRow, standIns := [], harness := (true, "bfedfc95734c8291edfc8b4fbd2e83eac56cf3e67b9421195415f0031cce7b93"), looks := true }, kinds := [], alts := [], laidByText := true, laidKinds := [.data, .data, .widerDeep, .widerDeep, .data, .data, .data, .data, .data, .data, .sentinel, .sentinel, .pinned, .pinned, .pinned], laidTests := true, laidLooks := .later }
def NumsLengthUptoCardSaid : Prop := Claim7.holds Tryz.pinned (.plain (OpenSpec.upto numsLengthSpec)) numsLengthUptoCard
end Rows
end Go.Proofs.YtdfodfflkmcgpaaGreatDoor
