/-
  DERIVED. GIVEN WITH THE SEED: THE CARDS: each row of YtgdkfmglkjfciaaGreatDoorRows.lean that lists a variable, with what it lists TIED to the program's text (the seventh form; the later family's looks); each row that meets fmt, with fmt's text TOLD by the authors' own Lean function (tested against real Go, not proved from fmt's source: count such statements apart). THE CARD IS WHAT COUNTS. Prove the row's statement (the work); the ties are given (YtgdkfmglkjfciaaGreatDoorTie.lean); close each card by the builder's one call (the guide's Derived/Test/ToyasCard.lean, 'card_holds'). Laid BY PROGRAM, IN A SANDBOX (cutbox-door.mjs). By AI agents, Wed Nov 11 2026. No macro, syntax, notation, axiom, sorry.
-/
import Derived.Test.YtgdkfmglkjfciaaGreatDoorRows
import GoSem.ClaimSeven
namespace Go.Proofs.YtgdkfmglkjfciaaGreatDoor
namespace Rows

/-- THE TIED CARD OF 'querylablaw05.SqlParses'. -/
def sqlParsesCard : Claim7 := { stood := { row := sqlParsesRow, standIns := [], harness := (true, "294d10ffcaddf12c9754e15006f2b35ba9aadba3e4d9f23eeb550ed5b55717ed"), looks := true }, kinds := [], alts := [], laidByText := true, laidKinds := [.data, .data, .data, .sentinel, .sentinel, .data], laidTests := true, laidLooks := .later }
def SqlParsesCardSaid : Prop := Claim7.holds Tryz.pinned (.plain (OpenSpec.ofChange sqlParsesSpec)) sqlParsesCard

/-- THE TIED CARD OF 'querylablaw05.SqlBlanks'. -/
def sqlBlanksCard : Claim7 := { stood := { row := sqlBlanksRow, standIns := [], harness := (true, "294d10ffcaddf12c9754e15006f2b35ba9aadba3e4d9f23eeb550ed5b55717ed"), looks := true }, kinds := [], alts := [], laidByText := true, laidKinds := [.data, .data, .data, .sentinel, .sentinel, .data], laidTests := true, laidLooks := .later }
def SqlBlanksCardSaid : Prop := Claim7.holds Tryz.pinned (.plain (OpenSpec.ofChange sqlBlanksSpec)) sqlBlanksCard

/-- THE SECOND FORM's CARD OF 'querylablaw05.SqlParses'. -/
def sqlParsesUptoCard : Claim7 := { stood := { row := sqlParsesUptoRow, standIns := [], harness := (true, "294d10ffcaddf12c9754e15006f2b35ba9aadba3e4d9f23eeb550ed5b55717ed"), looks := true }, kinds := [], alts := [], laidByText := true, laidKinds := [.data, .data, .data, .sentinel, .sentinel, .data], laidTests := true, laidLooks := .later }
def SqlParsesUptoCardSaid : Prop := Claim7.holds Tryz.pinned (.plain (OpenSpec.upto sqlParsesSpec)) sqlParsesUptoCard

/-- THE SECOND FORM's CARD OF 'querylablaw05.SqlBlanks'. -/
def sqlBlanksUptoCard : Claim7 := { stood := { row := sqlBlanksUptoRow, standIns := [], harness := (true, "294d10ffcaddf12c9754e15006f2b35ba9aadba3e4d9f23eeb550ed5b55717ed"), looks := true }, kinds := [], alts := [], laidByText := true, laidKinds := [.data, .data, .data, .sentinel, .sentinel, .data], laidTests := true, laidLooks := .later }
def SqlBlanksUptoCardSaid : Prop := Claim7.holds Tryz.pinned (.plain (OpenSpec.upto sqlBlanksSpec)) sqlBlanksUptoCard
end Rows
end Go.Proofs.YtgdkfmglkjfciaaGreatDoor
