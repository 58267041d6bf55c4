/-
  DERIVED. GIVEN WITH THE SEED: THE CARDS: each row of YthbnleoonldffaaGreatDoorRows.lean that lists a variable, with what it lists TIED to the program's text (the seventh form; the later family's looks); each row that meets fmt, with fmt's text TOLD by the authors' own Lean function (tested against real Go, not proved from fmt's source: count such statements apart). THE CARD IS WHAT COUNTS. Prove the row's statement (the work); the ties are given (YthbnleoonldffaaGreatDoorTie.lean); close each card by the builder's one call (the guide's Derived/Test/ToyasCard.lean, 'card_holds'). Laid BY PROGRAM, IN A SANDBOX (cutbox-door.mjs). By AI agents, Wed Nov 11 2026. No macro, syntax, notation, axiom, sorry.
-/
import Derived.Test.YthbnleoonldffaaGreatDoorRows
import GoSem.ClaimSeven
namespace Go.Proofs.YthbnleoonldffaaGreatDoor
namespace Rows

/-- THE TIED CARD OF 'querylablaw06.BindUnbindsRaw'. -/
def bindUnbindsRawCard : Claim7 := { stood := { row := bindUnbindsRawRow, standIns := [], harness := (true, "2c177d65cb39a6dd501e17cf11c2c4e20dc931f129f3043f3f1a0a2dddfeb295"), looks := false }, kinds := [], alts := [], laidByText := true, laidKinds := [.data, .data, .data, .data, .data], laidTests := true, laidLooks := .later }
def BindUnbindsRawCardSaid : Prop := Claim7.holds Tryz.pinned (.plain (OpenSpec.ofChange bindUnbindsRawSpec)) bindUnbindsRawCard

/-- THE TIED CARD OF 'querylablaw06.BindStatements'. -/
def bindStatementsCard : Claim7 := { stood := { row := bindStatementsRow, standIns := [], harness := (true, "2c177d65cb39a6dd501e17cf11c2c4e20dc931f129f3043f3f1a0a2dddfeb295"), looks := false }, kinds := [], alts := [], laidByText := true, laidKinds := [.data, .data, .data], laidTests := true, laidLooks := .later }
def BindStatementsCardSaid : Prop := Claim7.holds Tryz.pinned (.plain (OpenSpec.ofChange bindStatementsSpec)) bindStatementsCard

/-- THE TIED CARD OF 'querylablaw06.BindRaw'. -/
def bindRawCard : Claim7 := { stood := { row := bindRawRow, standIns := [], harness := (true, "2c177d65cb39a6dd501e17cf11c2c4e20dc931f129f3043f3f1a0a2dddfeb295"), looks := false }, kinds := [], alts := [], laidByText := true, laidKinds := [.data, .data, .data], laidTests := true, laidLooks := .later }
def BindRawCardSaid : Prop := Claim7.holds Tryz.pinned (.plain (OpenSpec.ofChange bindRawSpec)) bindRawCard

/-- THE TIED CARD OF 'querylablaw14.DemandMeans'. -/
def demandMeansCard : Claim7 := { stood := { row := demandMeansRow, standIns := [], harness := (true, "2c177d65cb39a6dd501e17cf11c2c4e20dc931f129f3043f3f1a0a2dddfeb295"), looks := false }, kinds := [], alts := [], laidByText := true, laidKinds := [.data, .data], laidTests := true, laidLooks := .later }
def DemandMeansCardSaid : Prop := Claim7.holds Tryz.pinned (.plain (OpenSpec.ofChange demandMeansSpec)) demandMeansCard

/-- THE SECOND FORM's CARD OF 'querylablaw06.BindUnbindsRaw'. -/
def bindUnbindsRawUptoCard : Claim7 := { stood := { row := bindUnbindsRawUptoRow, standIns := [], harness := (true, "2c177d65cb39a6dd501e17cf11c2c4e20dc931f129f3043f3f1a0a2dddfeb295"), looks := false }, kinds := [], alts := [], laidByText := true, laidKinds := [.data, .data, .data, .data, .data], laidTests := true, laidLooks := .later }
def BindUnbindsRawUptoCardSaid : Prop := Claim7.holds Tryz.pinned (.plain (OpenSpec.upto bindUnbindsRawSpec)) bindUnbindsRawUptoCard

/-- THE SECOND FORM's CARD OF 'querylablaw06.BindStatements'. -/
def bindStatementsUptoCard : Claim7 := { stood := { row := bindStatementsUptoRow, standIns := [], harness := (true, "2c177d65cb39a6dd501e17cf11c2c4e20dc931f129f3043f3f1a0a2dddfeb295"), looks := false }, kinds := [], alts := [], laidByText := true, laidKinds := [.data, .data, .data], laidTests := true, laidLooks := .later }
def BindStatementsUptoCardSaid : Prop := Claim7.holds Tryz.pinned (.plain (OpenSpec.upto bindStatementsSpec)) bindStatementsUptoCard

/-- THE SECOND FORM's CARD OF 'querylablaw06.BindRaw'. -/
def bindRawUptoCard : Claim7 := { stood := { row := bindRawUptoRow, standIns := [], harness := (true, "2c177d65cb39a6dd501e17cf11c2c4e20dc931f129f3043f3f1a0a2dddfeb295"), looks := false }, kinds := [], alts := [], laidByText := true, laidKinds := [.data, .data, .data], laidTests := true, laidLooks := .later }
def BindRawUptoCardSaid : Prop := Claim7.holds Tryz.pinned (.plain (OpenSpec.upto bindRawSpec)) bindRawUptoCard

/-- THE SECOND FORM's CARD OF 'querylablaw14.DemandMeans'. -/
def demandMeansUptoCard : Claim7 := { stood := { row := demandMeansUptoRow, standIns := [], harness := (true, "2c177d65cb39a6dd501e17cf11c2c4e20dc931f129f3043f3f1a0a2dddfeb295"), looks := false }, kinds := [], alts := [], laidByText := true, laidKinds := [.data, .data], laidTests := true, laidLooks := .later }
def DemandMeansUptoCardSaid : Prop := Claim7.holds Tryz.pinned (.plain (OpenSpec.upto demandMeansSpec)) demandMeansUptoCard
end Rows
end Go.Proofs.YthbnleoonldffaaGreatDoor
