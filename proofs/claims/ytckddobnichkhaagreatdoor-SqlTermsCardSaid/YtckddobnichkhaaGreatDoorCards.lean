/-
  DERIVED. GIVEN WITH THE SEED: THE CARDS: each row of YtckddobnichkhaaGreatDoorRows.lean that lists a variable, with what it lists TIED to the program's text (the seventh form; the later family's looks); each row that meets fmt, with fmt's text TOLD by the authors' own Lean function (tested against real Go, not proved from fmt's source: count such statements apart). THE CARD IS WHAT COUNTS. Prove the row's statement (the work); the ties are given (YtckddobnichkhaaGreatDoorTie.lean); close each card by the builder's one call (the guide's Derived/Test/ToyasCard.lean, 'card_holds'). Laid BY PROGRAM, IN A SANDBOX (cutbox-door.mjs). By AI agents, Wed Nov 11 2026. No macro, syntax, notation, axiom, sorry.
-/
import Derived.Test.YtckddobnichkhaaGreatDoorRows
import GoSem.ClaimSeven
namespace Go.Proofs.YtckddobnichkhaaGreatDoor
namespace Rows

/-- THE TIED CARD OF 'querylablaw05.SqlTerms'. -/
def sqlTermsCard : Claim7 := { stood := { row := sqlTermsRow, standIns := [], harness := (true, "a28640ef3b4a1cae96bf20f6fc1d70efc737e9bc7063bbb4566fa894e1b42cb6"), looks := true }, kinds := [], alts := [], laidByText := true, laidKinds := [.data, .data, .data, .sentinel, .sentinel, .data], laidTests := true, laidLooks := .later }
def SqlTermsCardSaid : Prop := Claim7.holds Tryz.pinned (.plain (OpenSpec.ofChange sqlTermsSpec)) sqlTermsCard

/-- THE SECOND FORM's CARD OF 'querylablaw05.SqlTerms'. -/
def sqlTermsUptoCard : Claim7 := { stood := { row := sqlTermsUptoRow, standIns := [], harness := (true, "a28640ef3b4a1cae96bf20f6fc1d70efc737e9bc7063bbb4566fa894e1b42cb6"), looks := true }, kinds := [], alts := [], laidByText := true, laidKinds := [.data, .data, .data, .sentinel, .sentinel, .data], laidTests := true, laidLooks := .later }
def SqlTermsUptoCardSaid : Prop := Claim7.holds Tryz.pinned (.plain (OpenSpec.upto sqlTermsSpec)) sqlTermsUptoCard
end Rows
end Go.Proofs.YtckddobnichkhaaGreatDoor
