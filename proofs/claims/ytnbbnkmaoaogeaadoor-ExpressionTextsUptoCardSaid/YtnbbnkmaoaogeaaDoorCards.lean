/-
  DERIVED. GIVEN WITH THE SEED: THE CARDS: each row of YtnbbnkmaoaogeaaDoorRows.lean that lists a variable, with what it lists TIED to the program's text (the seventh form; the later family's looks); each row that meets fmt, with fmt's text TOLD by the authors' own Lean function (tested against real Go, not proved from fmt's source: count such statements apart). THE CARD IS WHAT COUNTS. Prove the row's statement (the work); the ties are given (YtnbbnkmaoaogeaaDoorTie.lean); close each card by the builder's one call (the guide's Derived/Test/ToyasCard.lean, 'card_holds'). Laid BY PROGRAM, IN A SANDBOX (cutbox-door.mjs). By AI agents, Wed Nov 11 2026. No macro, syntax, notation, axiom, sorry.
-/
import Derived.Test.YtnbbnkmaoaogeaaDoorRows
import GoSem.ClaimSeven
namespace Go.Proofs.YtnbbnkmaoaogeaaDoor
namespace Rows

/-- THE TIED CARD OF 'querylablaw01.ValueDuals'. -/
def valueDualsCard : Claim7 := { stood := { row := valueDualsRow, standIns := [], harness := (true, "b1f1546bc3cd3afcbb30d388554af38aaed88227681d5583a674cc1f9216bc41"), looks := true }, kinds := [], alts := [], laidByText := true, laidKinds := [.data], laidTests := true, laidLooks := .later }
def ValueDualsCardSaid : Prop := Claim7.holds Tryd.pinned (.plain (OpenSpec.ofChange valueDualsSpec)) valueDualsCard

/-- THE TIED CARD OF 'querylablaw01.ValueMonotone'. -/
def valueMonotoneCard : Claim7 := { stood := { row := valueMonotoneRow, standIns := [], harness := (true, "b1f1546bc3cd3afcbb30d388554af38aaed88227681d5583a674cc1f9216bc41"), looks := true }, kinds := [], alts := [], laidByText := true, laidKinds := [.data], laidTests := true, laidLooks := .later }
def ValueMonotoneCardSaid : Prop := Claim7.holds Tryd.pinned (.plain (OpenSpec.ofChange valueMonotoneSpec)) valueMonotoneCard

/-- THE TIED CARD OF 'querylablaw01.ValueArith'. -/
def valueArithCard : Claim7 := { stood := { row := valueArithRow, standIns := [], harness := (true, "b1f1546bc3cd3afcbb30d388554af38aaed88227681d5583a674cc1f9216bc41"), looks := true }, kinds := [], alts := [], laidByText := true, laidKinds := [.data], laidTests := true, laidLooks := .later }
def ValueArithCardSaid : Prop := Claim7.holds Tryd.pinned (.plain (OpenSpec.ofChange valueArithSpec)) valueArithCard

/-- THE TIED CARD OF 'querylablaw01.ValueDivides'. -/
def valueDividesCard : Claim7 := { stood := { row := valueDividesRow, standIns := [], harness := (true, "b1f1546bc3cd3afcbb30d388554af38aaed88227681d5583a674cc1f9216bc41"), looks := true }, kinds := [], alts := [], laidByText := true, laidKinds := [.data], laidTests := true, laidLooks := .later }
def ValueDividesCardSaid : Prop := Claim7.holds Tryd.pinned (.plain (OpenSpec.ofChange valueDividesSpec)) valueDividesCard

/-- THE TIED CARD OF 'querylablaw01.ValueLogic'. -/
def valueLogicCard : Claim7 := { stood := { row := valueLogicRow, standIns := [], harness := (true, "b1f1546bc3cd3afcbb30d388554af38aaed88227681d5583a674cc1f9216bc41"), looks := true }, kinds := [], alts := [], laidByText := true, laidKinds := [.data], laidTests := true, laidLooks := .later }
def ValueLogicCardSaid : Prop := Claim7.holds Tryd.pinned (.plain (OpenSpec.ofChange valueLogicSpec)) valueLogicCard

/-- THE TIED CARD OF 'querylablaw02.ExpressionDecides'. -/
def expressionDecidesCard : Claim7 := { stood := { row := expressionDecidesRow, standIns := [], harness := (true, "b1f1546bc3cd3afcbb30d388554af38aaed88227681d5583a674cc1f9216bc41"), looks := true }, kinds := [], alts := [], laidByText := true, laidKinds := [.data, .data], laidTests := true, laidLooks := .later }
def ExpressionDecidesCardSaid : Prop := Claim7.holds Tryd.pinned (.plain (OpenSpec.ofChange expressionDecidesSpec)) expressionDecidesCard

/-- THE TIED CARD OF 'querylablaw02.ExpressionShifts'. -/
def expressionShiftsCard : Claim7 := { stood := { row := expressionShiftsRow, standIns := [], harness := (true, "b1f1546bc3cd3afcbb30d388554af38aaed88227681d5583a674cc1f9216bc41"), looks := true }, kinds := [], alts := [], laidByText := true, laidKinds := [.data, .data], laidTests := true, laidLooks := .later }
def ExpressionShiftsCardSaid : Prop := Claim7.holds Tryd.pinned (.plain (OpenSpec.ofChange expressionShiftsSpec)) expressionShiftsCard

/-- THE TIED CARD OF 'querylablaw02.ExpressionTyped'. -/
def expressionTypedCard : Claim7 := { stood := { row := expressionTypedRow, standIns := [], harness := (true, "b1f1546bc3cd3afcbb30d388554af38aaed88227681d5583a674cc1f9216bc41"), looks := true }, kinds := [], alts := [], laidByText := true, laidKinds := [.data, .data], laidTests := true, laidLooks := .later }
def ExpressionTypedCardSaid : Prop := Claim7.holds Tryd.pinned (.plain (OpenSpec.ofChange expressionTypedSpec)) expressionTypedCard

/-- THE TIED CARD OF 'querylablaw01.ValueTexts'. -/
def valueTextsCard : Claim7 := { stood := { row := valueTextsRow, standIns := [], harness := (true, "b1f1546bc3cd3afcbb30d388554af38aaed88227681d5583a674cc1f9216bc41"), looks := true }, kinds := [], alts := [], laidByText := true, laidKinds := [.data, .data, .data, .sentinel, .sentinel, .data], laidTests := true, laidLooks := .later }
def ValueTextsCardSaid : Prop := Claim7.holds Tryd.pinned (.plain (OpenSpec.ofChange valueTextsSpec)) valueTextsCard

/-- THE TIED CARD OF 'querylablaw02.ExpressionTexts'. -/
def expressionTextsCard : Claim7 := { stood := { row := expressionTextsRow, standIns := [], harness := (true, "b1f1546bc3cd3afcbb30d388554af38aaed88227681d5583a674cc1f9216bc41"), looks := true }, kinds := [], alts := [], laidByText := true, laidKinds := [.data, .data, .data, .data, .data], laidTests := true, laidLooks := .later }
def ExpressionTextsCardSaid : Prop := Claim7.holds Tryd.pinned (.plain (OpenSpec.ofChange expressionTextsSpec)) expressionTextsCard

/-- THE SECOND FORM's CARD OF 'querylablaw01.ValueDuals'. -/
def valueDualsUptoCard : Claim7 := { stood := { row := valueDualsUptoRow, standIns := [], harness := (true, "b1f1546bc3cd3afcbb30d388554af38aaed88227681d5583a674cc1f9216bc41"), looks := true }, kinds := [], alts := [], laidByText := true, laidKinds := [.data], laidTests := true, laidLooks := .later }
def ValueDualsUptoCardSaid : Prop := Claim7.holds Tryd.pinned (.plain (OpenSpec.upto valueDualsSpec)) valueDualsUptoCard

/-- THE SECOND FORM's CARD OF 'querylablaw01.ValueMonotone'. -/
def valueMonotoneUptoCard : Claim7 := { stood := { row := valueMonotoneUptoRow, standIns := [], harness := (true, "b1f1546bc3cd3afcbb30d388554af38aaed88227681d5583a674cc1f9216bc41"), looks := true }, kinds := [], alts := [], laidByText := true, laidKinds := [.data], laidTests := true, laidLooks := .later }
def ValueMonotoneUptoCardSaid : Prop := Claim7.holds Tryd.pinned (.plain (OpenSpec.upto valueMonotoneSpec)) valueMonotoneUptoCard

/-- THE SECOND FORM's CARD OF 'querylablaw01.ValueArith'. -/
def valueArithUptoCard : Claim7 := { stood := { row := valueArithUptoRow, standIns := [], harness := (true, "b1f1546bc3cd3afcbb30d388554af38aaed88227681d5583a674cc1f9216bc41"), looks := true }, kinds := [], alts := [], laidByText := true, laidKinds := [.data], laidTests := true, laidLooks := .later }
def ValueArithUptoCardSaid : Prop := Claim7.holds Tryd.pinned (.plain (OpenSpec.upto valueArithSpec)) valueArithUptoCard

/-- THE SECOND FORM's CARD OF 'querylablaw01.ValueDivides'. -/
def valueDividesUptoCard : Claim7 := { stood := { row := valueDividesUptoRow, standIns := [], harness := (true, "b1f1546bc3cd3afcbb30d388554af38aaed88227681d5583a674cc1f9216bc41"), looks := true }, kinds := [], alts := [], laidByText := true, laidKinds := [.data], laidTests := true, laidLooks := .later }
def ValueDividesUptoCardSaid : Prop := Claim7.holds Tryd.pinned (.plain (OpenSpec.upto valueDividesSpec)) valueDividesUptoCard

/-- THE SECOND FORM's CARD OF 'querylablaw01.ValueLogic'. -/
def valueLogicUptoCard : Claim7 := { stood := { row := valueLogicUptoRow, standIns := [], harness := (true, "b1f1546bc3cd3afcbb30d388554af38aaed88227681d5583a674cc1f9216bc41"), looks := true }, kinds := [], alts := [], laidByText := true, laidKinds := [.data], laidTests := true, laidLooks := .later }
def ValueLogicUptoCardSaid : Prop := Claim7.holds Tryd.pinned (.plain (OpenSpec.upto valueLogicSpec)) valueLogicUptoCard

/-- THE SECOND FORM's CARD OF 'querylablaw02.ExpressionDecides'. -/
def expressionDecidesUptoCard : Claim7 := { stood := { row := expressionDecidesUptoRow, standIns := [], harness := (true, "b1f1546bc3cd3afcbb30d388554af38aaed88227681d5583a674cc1f9216bc41"), looks := true }, kinds := [], alts := [], laidByText := true, laidKinds := [.data, .data], laidTests := true, laidLooks := .later }
def ExpressionDecidesUptoCardSaid : Prop := Claim7.holds Tryd.pinned (.plain (OpenSpec.upto expressionDecidesSpec)) expressionDecidesUptoCard

/-- THE SECOND FORM's CARD OF 'querylablaw02.ExpressionShifts'. -/
def expressionShiftsUptoCard : Claim7 := { stood := { row := expressionShiftsUptoRow, standIns := [], harness := (true, "b1f1546bc3cd3afcbb30d388554af38aaed88227681d5583a674cc1f9216bc41"), looks := true }, kinds := [], alts := [], laidByText := true, laidKinds := [.data, .data], laidTests := true, laidLooks := .later }
def ExpressionShiftsUptoCardSaid : Prop := Claim7.holds Tryd.pinned (.plain (OpenSpec.upto expressionShiftsSpec)) expressionShiftsUptoCard

/-- THE SECOND FORM's CARD OF 'querylablaw02.ExpressionTyped'. -/
def expressionTypedUptoCard : Claim7 := { stood := { row := expressionTypedUptoRow, standIns := [], harness := (true, "b1f1546bc3cd3afcbb30d388554af38aaed88227681d5583a674cc1f9216bc41"), looks := true }, kinds := [], alts := [], laidByText := true, laidKinds := [.data, .data], laidTests := true, laidLooks := .later }
def ExpressionTypedUptoCardSaid : Prop := Claim7.holds Tryd.pinned (.plain (OpenSpec.upto expressionTypedSpec)) expressionTypedUptoCard

/-- THE SECOND FORM's CARD OF 'querylablaw01.ValueTexts'. -/
def valueTextsUptoCard : Claim7 := { stood := { row := valueTextsUptoRow, standIns := [], harness := (true, "b1f1546bc3cd3afcbb30d388554af38aaed88227681d5583a674cc1f9216bc41"), looks := true }, kinds := [], alts := [], laidByText := true, laidKinds := [.data, .data, .data, .sentinel, .sentinel, .data], laidTests := true, laidLooks := .later }
def ValueTextsUptoCardSaid : Prop := Claim7.holds Tryd.pinned (.plain (OpenSpec.upto valueTextsSpec)) valueTextsUptoCard

/-- THE SECOND FORM's CARD OF 'querylablaw02.ExpressionTexts'. -/
def expressionTextsUptoCard : Claim7 := { stood := { row := expressionTextsUptoRow, standIns := [], harness := (true, "b1f1546bc3cd3afcbb30d388554af38aaed88227681d5583a674cc1f9216bc41"), looks := true }, kinds := [], alts := [], laidByText := true, laidKinds := [.data, .data, .data, .data, .data], laidTests := true, laidLooks := .later }
def ExpressionTextsUptoCardSaid : Prop := Claim7.holds Tryd.pinned (.plain (OpenSpec.upto expressionTextsSpec)) expressionTextsUptoCard
end Rows
end Go.Proofs.YtnbbnkmaoaogeaaDoor
