/-
  DERIVED. GIVEN WITH THE SEED: THE CARDS: each row of YtkkbepgccddjoaaGreatDoorRows.lean that lists a variable, with what it lists TIED to the program's text (the seventh form; the later family's looks); each row that meets fmt, with fmt's text TOLD by the authors' own Lean function (tested against real Go, not proved from fmt's source: count such statements apart). THE CARD IS WHAT COUNTS. Prove the row's statement (the work); the ties are given (YtkkbepgccddjoaaGreatDoorTie.lean); close each card by the builder's one call (the guide's Derived/Test/ToyasCard.lean, 'card_holds'). Laid BY PROGRAM, IN A SANDBOX (cutbox-door.mjs). By AI agents, Wed Nov 11 2026. No macro, syntax, notation, axiom, sorry.
-/
import Derived.Test.YtkkbepgccddjoaaGreatDoorRows
import GoSem.ClaimSeven
namespace Go.Proofs.YtkkbepgccddjoaaGreatDoor
namespace Rows

/-- THE TIED CARD OF 'querylablaw17.SummaryAgrees'. -/
def summaryAgreesCard : Claim7 := { stood := { row := summaryAgreesRow, standIns := [], harness := (true, "0451b4cc7da23de6a6124182da2d8f86576e93b60848e3b104803b370d4eee62"), looks := false }, kinds := [], alts := [], laidByText := true, laidKinds := [.data, .data], laidTests := true, laidLooks := .later }
def SummaryAgreesCardSaid : Prop := Claim7.holds Tryz.pinned (.plain (OpenSpec.ofChange summaryAgreesSpec)) summaryAgreesCard

/-- THE TIED CARD OF 'querylablaw14.DemandCounts'. -/
def demandCountsCard : Claim7 := { stood := { row := demandCountsRow, standIns := [], harness := (true, "0451b4cc7da23de6a6124182da2d8f86576e93b60848e3b104803b370d4eee62"), looks := false }, kinds := [], alts := [], laidByText := true, laidKinds := [.data, .data], laidTests := true, laidLooks := .later }
def DemandCountsCardSaid : Prop := Claim7.holds Tryz.pinned (.plain (OpenSpec.ofChange demandCountsSpec)) demandCountsCard

/-- THE TIED CARD OF 'querylablaw17.SummaryCounts'. -/
def summaryCountsCard : Claim7 := { stood := { row := summaryCountsRow, standIns := [], harness := (true, "0451b4cc7da23de6a6124182da2d8f86576e93b60848e3b104803b370d4eee62"), looks := false }, kinds := [], alts := [], laidByText := true, laidKinds := [.data, .data], laidTests := true, laidLooks := .later }
def SummaryCountsCardSaid : Prop := Claim7.holds Tryz.pinned (.plain (OpenSpec.ofChange summaryCountsSpec)) summaryCountsCard

/-- THE TIED CARD OF 'querylablaw17.SummaryRaw'. -/
def summaryRawCard : Claim7 := { stood := { row := summaryRawRow, standIns := [], harness := (true, "0451b4cc7da23de6a6124182da2d8f86576e93b60848e3b104803b370d4eee62"), looks := false }, kinds := [], alts := [], laidByText := true, laidKinds := [.data, .data], laidTests := true, laidLooks := .later }
def SummaryRawCardSaid : Prop := Claim7.holds Tryz.pinned (.plain (OpenSpec.ofChange summaryRawSpec)) summaryRawCard

/-- THE TIED CARD OF 'querylablaw17.SummaryScales'. -/
def summaryScalesCard : Claim7 := { stood := { row := summaryScalesRow, standIns := [], harness := (true, "0451b4cc7da23de6a6124182da2d8f86576e93b60848e3b104803b370d4eee62"), looks := false }, kinds := [], alts := [], laidByText := true, laidKinds := [.data, .data], laidTests := true, laidLooks := .later }
def SummaryScalesCardSaid : Prop := Claim7.holds Tryz.pinned (.plain (OpenSpec.ofChange summaryScalesSpec)) summaryScalesCard

/-- THE SECOND FORM's CARD OF 'querylablaw17.SummaryAgrees'. -/
def summaryAgreesUptoCard : Claim7 := { stood := { row := summaryAgreesUptoRow, standIns := [], harness := (true, "0451b4cc7da23de6a6124182da2d8f86576e93b60848e3b104803b370d4eee62"), looks := false }, kinds := [], alts := [], laidByText := true, laidKinds := [.data, .data], laidTests := true, laidLooks := .later }
def SummaryAgreesUptoCardSaid : Prop := Claim7.holds Tryz.pinned (.plain (OpenSpec.upto summaryAgreesSpec)) summaryAgreesUptoCard

/-- THE SECOND FORM's CARD OF 'querylablaw14.DemandCounts'. -/
def demandCountsUptoCard : Claim7 := { stood := { row := demandCountsUptoRow, standIns := [], harness := (true, "0451b4cc7da23de6a6124182da2d8f86576e93b60848e3b104803b370d4eee62"), looks := false }, kinds := [], alts := [], laidByText := true, laidKinds := [.data, .data], laidTests := true, laidLooks := .later }
def DemandCountsUptoCardSaid : Prop := Claim7.holds Tryz.pinned (.plain (OpenSpec.upto demandCountsSpec)) demandCountsUptoCard

/-- THE SECOND FORM's CARD OF 'querylablaw17.SummaryCounts'. -/
def summaryCountsUptoCard : Claim7 := { stood := { row := summaryCountsUptoRow, standIns := [], harness := (true, "0451b4cc7da23de6a6124182da2d8f86576e93b60848e3b104803b370d4eee62"), looks := false }, kinds := [], alts := [], laidByText := true, laidKinds := [.data, .data], laidTests := true, laidLooks := .later }
def SummaryCountsUptoCardSaid : Prop := Claim7.holds Tryz.pinned (.plain (OpenSpec.upto summaryCountsSpec)) summaryCountsUptoCard

/-- THE SECOND FORM's CARD OF 'querylablaw17.SummaryRaw'. -/
def summaryRawUptoCard : Claim7 := { stood := { row := summaryRawUptoRow, standIns := [], harness := (true, "0451b4cc7da23de6a6124182da2d8f86576e93b60848e3b104803b370d4eee62"), looks := false }, kinds := [], alts := [], laidByText := true, laidKinds := [.data, .data], laidTests := true, laidLooks := .later }
def SummaryRawUptoCardSaid : Prop := Claim7.holds Tryz.pinned (.plain (OpenSpec.upto summaryRawSpec)) summaryRawUptoCard

/-- THE SECOND FORM's CARD OF 'querylablaw17.SummaryScales'. -/
def summaryScalesUptoCard : Claim7 := { stood := { row := summaryScalesUptoRow, standIns := [], harness := (true, "0451b4cc7da23de6a6124182da2d8f86576e93b60848e3b104803b370d4eee62"), looks := false }, kinds := [], alts := [], laidByText := true, laidKinds := [.data, .data], laidTests := true, laidLooks := .later }
def SummaryScalesUptoCardSaid : Prop := Claim7.holds Tryz.pinned (.plain (OpenSpec.upto summaryScalesSpec)) summaryScalesUptoCard
end Rows
end Go.Proofs.YtkkbepgccddjoaaGreatDoor
