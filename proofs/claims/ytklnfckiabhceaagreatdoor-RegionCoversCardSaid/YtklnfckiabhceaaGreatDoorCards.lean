/-
  DERIVED. GIVEN WITH THE SEED: THE CARDS: each row of YtklnfckiabhceaaGreatDoorRows.lean that lists a variable, with what it lists TIED to the program's text (the seventh form; the later family's looks); each row that meets fmt, with fmt's text TOLD by the authors' own Lean function (tested against real Go, not proved from fmt's source: count such statements apart). THE CARD IS WHAT COUNTS. Prove the row's statement (the work); the ties are given (YtklnfckiabhceaaGreatDoorTie.lean); close each card by the builder's one call (the guide's Derived/Test/ToyasCard.lean, 'card_holds'). Laid BY PROGRAM, IN A SANDBOX (cutbox-door.mjs). By AI agents, Wed Nov 11 2026. No macro, syntax, notation, axiom, sorry.
-/
import Derived.Test.YtklnfckiabhceaaGreatDoorRows
import GoSem.ClaimSeven
namespace Go.Proofs.YtklnfckiabhceaaGreatDoor
namespace Rows

/-- THE TIED CARD OF 'querylablaw13.RegionPlain'. -/
def regionPlainCard : Claim7 := { stood := { row := regionPlainRow, standIns := [], harness := (true, "ec116c0384e7ff5d3f9088b974799e67f70d18245b4015552e5432d676c565ae"), looks := false }, kinds := [], alts := [], laidByText := true, laidKinds := [.data], laidTests := true, laidLooks := .later }
def RegionPlainCardSaid : Prop := Claim7.holds Tryz.pinned (.plain (OpenSpec.ofChange regionPlainSpec)) regionPlainCard

/-- THE TIED CARD OF 'querylablaw13.RegionOf'. -/
def regionOfCard : Claim7 := { stood := { row := regionOfRow, standIns := [], harness := (true, "ec116c0384e7ff5d3f9088b974799e67f70d18245b4015552e5432d676c565ae"), looks := false }, kinds := [], alts := [], laidByText := true, laidKinds := [.data, .data, .data, .data, .data], laidTests := true, laidLooks := .later }
def RegionOfCardSaid : Prop := Claim7.holds Tryz.pinned (.plain (OpenSpec.ofChange regionOfSpec)) regionOfCard

/-- THE TIED CARD OF 'querylablaw13.RegionRegions'. -/
def regionRegionsCard : Claim7 := { stood := { row := regionRegionsRow, standIns := [], harness := (true, "ec116c0384e7ff5d3f9088b974799e67f70d18245b4015552e5432d676c565ae"), looks := false }, kinds := [], alts := [], laidByText := true, laidKinds := [.data, .data, .data, .data, .data], laidTests := true, laidLooks := .later }
def RegionRegionsCardSaid : Prop := Claim7.holds Tryz.pinned (.plain (OpenSpec.ofChange regionRegionsSpec)) regionRegionsCard

/-- THE TIED CARD OF 'querylablaw13.RegionCovers'. -/
def regionCoversCard : Claim7 := { stood := { row := regionCoversRow, standIns := [], harness := (true, "ec116c0384e7ff5d3f9088b974799e67f70d18245b4015552e5432d676c565ae"), looks := false }, kinds := [], alts := [], laidByText := true, laidKinds := [.data, .data, .data, .data, .data], laidTests := true, laidLooks := .later }
def RegionCoversCardSaid : Prop := Claim7.holds Tryz.pinned (.plain (OpenSpec.ofChange regionCoversSpec)) regionCoversCard

/-- THE SECOND FORM's CARD OF 'querylablaw13.RegionPlain'. -/
def regionPlainUptoCard : Claim7 := { stood := { row := regionPlainUptoRow, standIns := [], harness := (true, "ec116c0384e7ff5d3f9088b974799e67f70d18245b4015552e5432d676c565ae"), looks := false }, kinds := [], alts := [], laidByText := true, laidKinds := [.data], laidTests := true, laidLooks := .later }
def RegionPlainUptoCardSaid : Prop := Claim7.holds Tryz.pinned (.plain (OpenSpec.upto regionPlainSpec)) regionPlainUptoCard

/-- THE SECOND FORM's CARD OF 'querylablaw13.RegionOf'. -/
def regionOfUptoCard : Claim7 := { stood := { row := regionOfUptoRow, standIns := [], harness := (true, "ec116c0384e7ff5d3f9088b974799e67f70d18245b4015552e5432d676c565ae"), looks := false }, kinds := [], alts := [], laidByText := true, laidKinds := [.data, .data, .data, .data, .data], laidTests := true, laidLooks := .later }
def RegionOfUptoCardSaid : Prop := Claim7.holds Tryz.pinned (.plain (OpenSpec.upto regionOfSpec)) regionOfUptoCard

/-- THE SECOND FORM's CARD OF 'querylablaw13.RegionRegions'. -/
def regionRegionsUptoCard : Claim7 := { stood := { row := regionRegionsUptoRow, standIns := [], harness := (true, "ec116c0384e7ff5d3f9088b974799e67f70d18245b4015552e5432d676c565ae"), looks := false }, kinds := [], alts := [], laidByText := true, laidKinds := [.data, .data, .data, .data, .data], laidTests := true, laidLooks := .later }
def RegionRegionsUptoCardSaid : Prop := Claim7.holds Tryz.pinned (.plain (OpenSpec.upto regionRegionsSpec)) regionRegionsUptoCard

/-- THE SECOND FORM's CARD OF 'querylablaw13.RegionCovers'. -/
def regionCoversUptoCard : Claim7 := { stood := { row := regionCoversUptoRow, standIns := [], harness := (true, "ec116c0384e7ff5d3f9088b974799e67f70d18245b4015552e5432d676c565ae"), looks := false }, kinds := [], alts := [], laidByText := true, laidKinds := [.data, .data, .data, .data, .data], laidTests := true, laidLooks := .later }
def RegionCoversUptoCardSaid : Prop := Claim7.holds Tryz.pinned (.plain (OpenSpec.upto regionCoversSpec)) regionCoversUptoCard
end Rows
end Go.Proofs.YtklnfckiabhceaaGreatDoor
