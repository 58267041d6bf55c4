/-
  DERIVED. GIVEN WITH THE SEED: THE CARDS: each row of YtlimkhfjidcelaaDoorRows.lean that lists a variable, with what it lists TIED to the program's text (the seventh form; the later family's looks); each row that meets fmt, with fmt's text TOLD by the authors' own Lean function (tested against real Go, not proved from fmt's source: count such statements apart). THE CARD IS WHAT COUNTS. Prove the row's statement (the work); the ties are given (YtlimkhfjidcelaaDoorTie.lean); close each card by the builder's one call (the guide's Derived/Test/ToyasCard.lean, 'card_holds'). Laid BY PROGRAM, IN A SANDBOX (cutbox-door.mjs). By AI agents, Wed Nov 11 2026. No macro, syntax, notation, axiom, sorry.
-/
import Derived.Test.YtlimkhfjidcelaaDoorRows
import GoSem.ClaimSeven
namespace Go.Proofs.YtlimkhfjidcelaaDoor
namespace Rows

/-- THE TIED CARD OF 'querylablaw05.SqlValid'. -/
def sqlValidCard : Claim7 := { stood := { row := sqlValidRow, standIns := [], harness := (true, "5a61dc565cbc0e165cae8481711d213f19f4741fb7d88a8fea27eb230b87f60c"), looks := true }, kinds := [], alts := [], laidByText := true, laidKinds := [.data], laidTests := true, laidLooks := .later }
def SqlValidCardSaid : Prop := Claim7.holds Tryd.pinned (.plain (OpenSpec.ofChange sqlValidSpec)) sqlValidCard

/-- THE TIED CARD OF 'querylablaw06.BindTerms'. -/
def bindTermsCard : Claim7 := { stood := { row := bindTermsRow, standIns := [], harness := (true, "5a61dc565cbc0e165cae8481711d213f19f4741fb7d88a8fea27eb230b87f60c"), looks := true }, kinds := [], alts := [], laidByText := true, laidKinds := [.data, .data], laidTests := true, laidLooks := .later }
def BindTermsCardSaid : Prop := Claim7.holds Tryd.pinned (.plain (OpenSpec.ofChange bindTermsSpec)) bindTermsCard

/-- THE TIED CARD OF 'querylablaw06.BindBack'. -/
def bindBackCard : Claim7 := { stood := { row := bindBackRow, standIns := [], harness := (true, "5a61dc565cbc0e165cae8481711d213f19f4741fb7d88a8fea27eb230b87f60c"), looks := true }, kinds := [], alts := [], laidByText := true, laidKinds := [.data, .data], laidTests := true, laidLooks := .later }
def BindBackCardSaid : Prop := Claim7.holds Tryd.pinned (.plain (OpenSpec.ofChange bindBackSpec)) bindBackCard

/-- THE TIED CARD OF 'querylablaw01.ValueTexts'. -/
def valueTextsCard : Claim7 := { stood := { row := valueTextsRow, standIns := [], harness := (true, "5a61dc565cbc0e165cae8481711d213f19f4741fb7d88a8fea27eb230b87f60c"), looks := true }, kinds := [], alts := [], laidByText := true, laidKinds := [.data, .data, .data, .sentinel, .sentinel, .data], laidTests := true, laidLooks := .later }
def ValueTextsCardSaid : Prop := Claim7.holds Tryd.pinned (.plain (OpenSpec.ofChange valueTextsSpec)) valueTextsCard

/-- THE SECOND FORM's CARD OF 'querylablaw05.SqlValid'. -/
def sqlValidUptoCard : Claim7 := { stood := { row := sqlValidUptoRow, standIns := [], harness := (true, "5a61dc565cbc0e165cae8481711d213f19f4741fb7d88a8fea27eb230b87f60c"), looks := true }, kinds := [], alts := [], laidByText := true, laidKinds := [.data], laidTests := true, laidLooks := .later }
def SqlValidUptoCardSaid : Prop := Claim7.holds Tryd.pinned (.plain (OpenSpec.upto sqlValidSpec)) sqlValidUptoCard

/-- THE SECOND FORM's CARD OF 'querylablaw06.BindTerms'. -/
def bindTermsUptoCard : Claim7 := { stood := { row := bindTermsUptoRow, standIns := [], harness := (true, "5a61dc565cbc0e165cae8481711d213f19f4741fb7d88a8fea27eb230b87f60c"), looks := true }, kinds := [], alts := [], laidByText := true, laidKinds := [.data, .data], laidTests := true, laidLooks := .later }
def BindTermsUptoCardSaid : Prop := Claim7.holds Tryd.pinned (.plain (OpenSpec.upto bindTermsSpec)) bindTermsUptoCard

/-- THE SECOND FORM's CARD OF 'querylablaw06.BindBack'. -/
def bindBackUptoCard : Claim7 := { stood := { row := bindBackUptoRow, standIns := [], harness := (true, "5a61dc565cbc0e165cae8481711d213f19f4741fb7d88a8fea27eb230b87f60c"), looks := true }, kinds := [], alts := [], laidByText := true, laidKinds := [.data, .data], laidTests := true, laidLooks := .later }
def BindBackUptoCardSaid : Prop := Claim7.holds Tryd.pinned (.plain (OpenSpec.upto bindBackSpec)) bindBackUptoCard

/-- THE SECOND FORM's CARD OF 'querylablaw01.ValueTexts'. -/
def valueTextsUptoCard : Claim7 := { stood := { row := valueTextsUptoRow, standIns := [], harness := (true, "5a61dc565cbc0e165cae8481711d213f19f4741fb7d88a8fea27eb230b87f60c"), looks := true }, kinds := [], alts := [], laidByText := true, laidKinds := [.data, .data, .data, .sentinel, .sentinel, .data], laidTests := true, laidLooks := .later }
def ValueTextsUptoCardSaid : Prop := Claim7.holds Tryd.pinned (.plain (OpenSpec.upto valueTextsSpec)) valueTextsUptoCard
end Rows
end Go.Proofs.YtlimkhfjidcelaaDoor
