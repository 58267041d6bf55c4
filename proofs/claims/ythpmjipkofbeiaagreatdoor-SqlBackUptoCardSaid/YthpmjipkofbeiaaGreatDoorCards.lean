/-
  DERIVED. GIVEN WITH THE SEED: THE CARDS: each row of YthpmjipkofbeiaaGreatDoorRows.lean that lists a variable, with what it lists TIED to the program's text (the seventh form; the later family's looks); each row that meets fmt, with fmt's text TOLD by the authors' own Lean function (tested against real Go, not proved from fmt's source: count such statements apart). THE CARD IS WHAT COUNTS. Prove the row's statement (the work); the ties are given (YthpmjipkofbeiaaGreatDoorTie.lean); close each card by the builder's one call (the guide's Derived/Test/ToyasCard.lean, 'card_holds'). Laid BY PROGRAM, IN A SANDBOX (cutbox-door.mjs). By AI agents, Wed Nov 11 2026. No macro, syntax, notation, axiom, sorry.
-/
import Derived.Test.YthpmjipkofbeiaaGreatDoorRows
import GoSem.ClaimSeven
namespace Go.Proofs.YthpmjipkofbeiaaGreatDoor
namespace Rows

/-- THE TIED CARD OF 'querylablaw05.SqlTermBack'. -/
def sqlTermBackCard : Claim7 := { stood := { row := sqlTermBackRow, standIns := [], harness := (true, "cecca4d8fddfb324d66dbe24fae9c7096d0ce1fa60659a495ab0654b87835078"), looks := true }, kinds := [], alts := [], laidByText := true, laidKinds := [.data, .data, .data, .sentinel, .sentinel, .data, .data, .data, .data], laidTests := true, laidLooks := .later }
def SqlTermBackCardSaid : Prop := Claim7.holds Tryz.pinned (.plain (OpenSpec.ofChange sqlTermBackSpec)) sqlTermBackCard

/-- THE TIED CARD OF 'querylablaw05.SqlBack'. -/
def sqlBackCard : Claim7 := { stood := { row := sqlBackRow, standIns := [], harness := (true, "cecca4d8fddfb324d66dbe24fae9c7096d0ce1fa60659a495ab0654b87835078"), looks := true }, kinds := [], alts := [], laidByText := true, laidKinds := [.data, .data, .data, .sentinel, .sentinel, .data, .data, .data, .data, .data], laidTests := true, laidLooks := .later }
def SqlBackCardSaid : Prop := Claim7.holds Tryz.pinned (.plain (OpenSpec.ofChange sqlBackSpec)) sqlBackCard

/-- THE SECOND FORM's CARD OF 'querylablaw05.SqlTermBack'. -/
def sqlTermBackUptoCard : Claim7 := { stood := { row := sqlTermBackUptoRow, standIns := [], harness := (true, "cecca4d8fddfb324d66dbe24fae9c7096d0ce1fa60659a495ab0654b87835078"), looks := true }, kinds := [], alts := [], laidByText := true, laidKinds := [.data, .data, .data, .sentinel, .sentinel, .data, .data, .data, .data], laidTests := true, laidLooks := .later }
def SqlTermBackUptoCardSaid : Prop := Claim7.holds Tryz.pinned (.plain (OpenSpec.upto sqlTermBackSpec)) sqlTermBackUptoCard

/-- THE SECOND FORM's CARD OF 'querylablaw05.SqlBack'. -/
def sqlBackUptoCard : Claim7 := { stood := { row := sqlBackUptoRow, standIns := [], harness := (true, "cecca4d8fddfb324d66dbe24fae9c7096d0ce1fa60659a495ab0654b87835078"), looks := true }, kinds := [], alts := [], laidByText := true, laidKinds := [.data, .data, .data, .sentinel, .sentinel, .data, .data, .data, .data, .data], laidTests := true, laidLooks := .later }
def SqlBackUptoCardSaid : Prop := Claim7.holds Tryz.pinned (.plain (OpenSpec.upto sqlBackSpec)) sqlBackUptoCard
end Rows
end Go.Proofs.YthpmjipkofbeiaaGreatDoor
