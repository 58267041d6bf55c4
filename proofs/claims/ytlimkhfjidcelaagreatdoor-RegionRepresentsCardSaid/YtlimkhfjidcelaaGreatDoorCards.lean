/-
  DERIVED. GIVEN WITH THE SEED: THE CARDS: each row of YtlimkhfjidcelaaGreatDoorRows.lean that lists a variable, with what it lists TIED to the program's text (the seventh form; the later family's looks); each row that meets fmt, with fmt's text TOLD by the authors' own Lean function (tested against real Go, not proved from fmt's source: count such statements apart). THE CARD IS WHAT COUNTS. Prove the row's statement (the work); the ties are given (YtlimkhfjidcelaaGreatDoorTie.lean); close each card by the builder's one call (the guide's Derived/Test/ToyasCard.lean, 'card_holds'). Laid BY PROGRAM, IN A SANDBOX (cutbox-door.mjs). By AI agents, Wed Nov 11 2026. No macro, syntax, notation, axiom, sorry.
-/
import Derived.Test.YtlimkhfjidcelaaGreatDoorRows
import GoSem.ClaimSeven
namespace Go.Proofs.YtlimkhfjidcelaaGreatDoor
namespace Rows

/-- THE TIED CARD OF 'querylablaw13.RegionPlain'. -/
def regionPlainCard : Claim7 := { stood := { row := regionPlainRow, standIns := [], harness := (true, "5cebfd6e1723f5d1e859d7f9f3cce2173775edf52b40e63dcd0ae0d34714126f"), looks := false }, kinds := [], alts := [], laidByText := true, laidKinds := [.data], laidTests := true, laidLooks := .later }
def RegionPlainCardSaid : Prop := Claim7.holds Tryz.pinned (.plain (OpenSpec.ofChange regionPlainSpec)) regionPlainCard

/-- THE TIED CARD OF 'querylablaw13.RegionClasses'. -/
def regionClassesCard : Claim7 := { stood := { row := regionClassesRow, standIns := [], harness := (true, "5cebfd6e1723f5d1e859d7f9f3cce2173775edf52b40e63dcd0ae0d34714126f"), looks := false }, kinds := [], alts := [], laidByText := true, laidKinds := [.data, .data, .data, .data, .data], laidTests := true, laidLooks := .later }
def RegionClassesCardSaid : Prop := Claim7.holds Tryz.pinned (.plain (OpenSpec.ofChange regionClassesSpec)) regionClassesCard

/-- THE TIED CARD OF 'querylablaw13.RegionRepresents'. -/
def regionRepresentsCard : Claim7 := { stood := { row := regionRepresentsRow, standIns := [], harness := (true, "5cebfd6e1723f5d1e859d7f9f3cce2173775edf52b40e63dcd0ae0d34714126f"), looks := false }, kinds := [], alts := [], laidByText := true, laidKinds := [.data, .data, .data, .data, .data], laidTests := true, laidLooks := .later }
def RegionRepresentsCardSaid : Prop := Claim7.holds Tryz.pinned (.plain (OpenSpec.ofChange regionRepresentsSpec)) regionRepresentsCard

/-- THE SECOND FORM's CARD OF 'querylablaw13.RegionPlain'. -/
def regionPlainUptoCard : Claim7 := { stood := { row := regionPlainUptoRow, standIns := [], harness := (true, "5cebfd6e1723f5d1e859d7f9f3cce2173775edf52b40e63dcd0ae0d34714126f"), looks := false }, kinds := [], alts := [], laidByText := true, laidKinds := [.data], laidTests := true, laidLooks := .later }
def RegionPlainUptoCardSaid : Prop := Claim7.holds Tryz.pinned (.plain (OpenSpec.upto regionPlainSpec)) regionPlainUptoCard

/-- THE SECOND FORM's CARD OF 'querylablaw13.RegionClasses'. -/
def regionClassesUptoCard : Claim7 := { stood := { row := regionClassesUptoRow, standIns := [], harness := (true, "5cebfd6e1723f5d1e859d7f9f3cce2173775edf52b40e63dcd0ae0d34714126f"), looks := false }, kinds := [], alts := [], laidByText := true, laidKinds := [.data, .data, .data, .data, .data], laidTests := true, laidLooks := .later }
def RegionClassesUptoCardSaid : Prop := Claim7.holds Tryz.pinned (.plain (OpenSpec.upto regionClassesSpec)) regionClassesUptoCard

/-- THE SECOND FORM's CARD OF 'querylablaw13.RegionRepresents'. -/
def regionRepresentsUptoCard : Claim7 := { stood := { row := regionRepresentsUptoRow, standIns := [], harness := (true, "5cebfd6e1723f5d1e859d7f9f3cce2173775edf52b40e63dcd0ae0d34714126f"), looks := false }, kinds := [], alts := [], laidByText := true, laidKinds := [.data, .data, .data, .data, .data], laidTests := true, laidLooks := .later }
def RegionRepresentsUptoCardSaid : Prop := Claim7.holds Tryz.pinned (.plain (OpenSpec.upto regionRepresentsSpec)) regionRepresentsUptoCard
end Rows
end Go.Proofs.YtlimkhfjidcelaaGreatDoor
