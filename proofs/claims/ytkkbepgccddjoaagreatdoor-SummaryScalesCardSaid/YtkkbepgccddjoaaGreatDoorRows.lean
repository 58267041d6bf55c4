/-
  NARROWER THAN 'FOR EVERY INPUT', by the rows' own cells (each row's printed sentence says how): SummaryAgrees: laid · DemandCounts: laid · SummaryCounts: laid · SummaryRaw: loops, laid · SummaryScales: laid.
  DERIVED. THE GIVEN ROWS OF THIS SEAT. 5 by the template 'for every input the law returns true; each argument reads behind the call as it read before'; 0 by the template 'total and deterministic' (their statements: YtkkbepgccddjoaaGreatDoorTotals.lean).
  GIVEN WITH THE SEED: the statements are not yours to turn. If you find one false, say at which input.
  Laid BY PROGRAM, IN A SANDBOX (cutbox-rows.mjs): the forced cells as the released guide's own fill.sh prints them over the translation 3fd978b2523b4b53… (all of the seat's roots in one cut). By AI agents, Wed Nov 11 2026. No macro, syntax, notation, axiom, sorry.
-/
import Derived.Test.YtkkbepgccddjoaaGreatDoorChecked
import GoSem.Claim
import GoSem.ClaimJoined
import GoSem.ClaimMapViews
import Derived.JoinedTies
import Derived.KernelRfl
namespace Go.Proofs.YtkkbepgccddjoaaGreatDoor
/- THE CELL 'sum', in the pinned program and in every row, IS THE sha256 OF THE DUMP (.gsa) THAT YtkkbepgccddjoaaGreatDoorProg.lean LOADS. Nothing in Lean hashes anything: it is a label: what it is worth is what the hold of that sum in a sandbox is worth. -/
noncomputable def Tryz.pinned : Pinned := { name := "ytkkbepgccddjoaagreatdoor", sum := "3fd978b2523b4b539125b997de66896a0028805ee0ab4374a489d0cdfa28d138", checked := Tryz.checked }
namespace Rows
def none {H : Type} : Left H := { results := [], args := [] }

/- WHAT THE LISTED PACKAGE-LEVEL VARIABLES READ AS WHEN THE CALL BEGINS. Each datum BY PROGRAM (the guide's laid-datum.mjs) off the statement by which the dump's own 'gosem.cut.vars' lays the variable. In a bare row this is a premise. The card (YtkkbepgccddjoaaGreatDoorCards.lean) ties it to the program's text. -/
def laid_querylab_value_null {H : Type} : DataW H := .agg [.lit (.int .i64 0), .lit (.int .i64 0), .lit (.string [])]
def laid_querylab_expression_operations {H : Type} : DataW H := .agg [.agg [.lit (.string []), .lit (.int .i64 0), .lit (.int .i64 0), .lit (.int .i64 0)], .agg [.lit (.string [110, 117, 108, 108]), .lit (.int .i64 0), .lit (.int .i64 0), .lit (.int .i64 0)], .agg [.lit (.string [105, 110, 116]), .lit (.int .i64 0), .lit (.int .i64 0), .lit (.int .i64 1)], .agg [.lit (.string [98, 111, 111, 108]), .lit (.int .i64 0), .lit (.int .i64 0), .lit (.int .i64 2)], .agg [.lit (.string [116, 101, 120, 116]), .lit (.int .i64 0), .lit (.int .i64 0), .lit (.int .i64 3)], .agg [.lit (.string [99, 111, 108, 117, 109, 110]), .lit (.int .i64 0), .lit (.int .i64 0), .lit (.int .i64 0)], .agg [.lit (.string [97, 100, 100]), .lit (.int .i64 2), .lit (.int .i64 1), .lit (.int .i64 1)], .agg [.lit (.string [115, 117, 98]), .lit (.int .i64 2), .lit (.int .i64 1), .lit (.int .i64 1)], .agg [.lit (.string [109, 117, 108]), .lit (.int .i64 2), .lit (.int .i64 1), .lit (.int .i64 1)], .agg [.lit (.string [100, 105, 118]), .lit (.int .i64 2), .lit (.int .i64 1), .lit (.int .i64 1)], .agg [.lit (.string [109, 111, 100]), .lit (.int .i64 2), .lit (.int .i64 1), .lit (.int .i64 1)], .agg [.lit (.string [110, 101, 103]), .lit (.int .i64 1), .lit (.int .i64 1), .lit (.int .i64 1)], .agg [.lit (.string [99, 111, 110, 99, 97, 116]), .lit (.int .i64 2), .lit (.int .i64 2), .lit (.int .i64 3)], .agg [.lit (.string [108, 101, 110, 103, 116, 104]), .lit (.int .i64 1), .lit (.int .i64 2), .lit (.int .i64 1)], .agg [.lit (.string [101, 113]), .lit (.int .i64 2), .lit (.int .i64 4), .lit (.int .i64 2)], .agg [.lit (.string [110, 101]), .lit (.int .i64 2), .lit (.int .i64 4), .lit (.int .i64 2)], .agg [.lit (.string [108, 116]), .lit (.int .i64 2), .lit (.int .i64 4), .lit (.int .i64 2)], .agg [.lit (.string [108, 101]), .lit (.int .i64 2), .lit (.int .i64 4), .lit (.int .i64 2)], .agg [.lit (.string [103, 116]), .lit (.int .i64 2), .lit (.int .i64 4), .lit (.int .i64 2)], .agg [.lit (.string [103, 101]), .lit (.int .i64 2), .lit (.int .i64 4), .lit (.int .i64 2)], .agg [.lit (.string [115, 97, 109, 101]), .lit (.int .i64 2), .lit (.int .i64 4), .lit (.int .i64 2)], .agg [.lit (.string [105, 115, 110, 117, 108, 108]), .lit (.int .i64 1), .lit (.int .i64 5), .lit (.int .i64 2)], .agg [.lit (.string [97, 110, 100]), .lit (.int .i64 2), .lit (.int .i64 3), .lit (.int .i64 2)], .agg [.lit (.string [111, 114]), .lit (.int .i64 2), .lit (.int .i64 3), .lit (.int .i64 2)], .agg [.lit (.string [110, 111, 116]), .lit (.int .i64 1), .lit (.int .i64 3), .lit (.int .i64 2)], .agg [.lit (.string [105, 115, 116, 114, 117, 101]), .lit (.int .i64 1), .lit (.int .i64 3), .lit (.int .i64 2)], .agg [.lit (.string [99, 97, 115, 101]), .lit (.int .i64 3), .lit (.int .i64 6), .lit (.int .i64 0)], .agg [.lit (.string [99, 111, 97, 108, 101, 115, 99, 101]), .lit (.int .i64 2), .lit (.int .i64 4), .lit (.int .i64 0)], .agg [.lit (.string [105, 110]), .lit (.int .i64 2), .lit (.int .i64 4), .lit (.int .i64 2)]]

/-- 'querylablaw17.SummaryAgrees': WHATEVER THE INPUT: true; the input reads as it did. -/
def summaryAgreesSpec : ChangeSpec := { name := "summaryAgrees", fn := fun _ => fun
  | [d] => { results := [.lit (.bool true)], args := [d] }
  | _ => none }
def summaryAgreesRow : OpenClaim := { program := "ytkkbepgccddjoaagreatdoor", sum := "3fd978b2523b4b539125b997de66896a0028805ee0ab4374a489d0cdfa28d138", func := "querylab/querylablaw17.SummaryAgrees", spec := "summaryAgrees", inPlace := ["internal/bytealg.IndexByteString", "internal/bytealg.IndexString"], unfollowed := true, recurses := true, named := ["internal/bytealg.MaxLen", "querylab/expression.operations", "querylab/value.null"], apart := false, laid := [("querylab/value.null", laid_querylab_value_null), ("querylab/expression.operations", laid_querylab_expression_operations)] }
def SummaryAgreesSaid : Prop := summaryAgreesRow.holds Tryz.pinned (OpenSpec.ofChange summaryAgreesSpec)

/-- ITS FALSE NEIGHBOUR: 'it returns false'. Refute it at one input. -/
def summaryAgreesWrong : ChangeSpec := { name := "summaryAgrees", fn := fun _ => fun
  | [d] => { results := [.lit (.bool false)], args := [d] }
  | _ => none }
def SummaryAgreesWrongFalsely : Prop := summaryAgreesRow.holds Tryz.pinned (OpenSpec.ofChange summaryAgreesWrong)

/-- 'querylablaw14.DemandCounts': WHATEVER THE INPUT: true; the input reads as it did. -/
def demandCountsSpec : ChangeSpec := { name := "demandCounts", fn := fun _ => fun
  | [d1, d2] => { results := [.lit (.bool true)], args := [d1, d2] }
  | _ => none }
def demandCountsRow : OpenClaim := { program := "ytkkbepgccddjoaagreatdoor", sum := "3fd978b2523b4b539125b997de66896a0028805ee0ab4374a489d0cdfa28d138", func := "querylab/querylablaw14.DemandCounts", spec := "demandCounts", inPlace := ["internal/bytealg.IndexByteString", "internal/bytealg.IndexString"], unfollowed := true, recurses := true, named := ["internal/bytealg.MaxLen", "querylab/expression.operations", "querylab/value.null"], apart := false, laid := [("querylab/value.null", laid_querylab_value_null), ("querylab/expression.operations", laid_querylab_expression_operations)] }
def DemandCountsSaid : Prop := demandCountsRow.holds Tryz.pinned (OpenSpec.ofChange demandCountsSpec)

/-- ITS FALSE NEIGHBOUR: 'it returns false'. Refute it at one input. -/
def demandCountsWrong : ChangeSpec := { name := "demandCounts", fn := fun _ => fun
  | [d1, d2] => { results := [.lit (.bool false)], args := [d1, d2] }
  | _ => none }
def DemandCountsWrongFalsely : Prop := demandCountsRow.holds Tryz.pinned (OpenSpec.ofChange demandCountsWrong)

/-- 'querylablaw17.SummaryCounts': WHATEVER THE INPUT: true; the input reads as it did. -/
def summaryCountsSpec : ChangeSpec := { name := "summaryCounts", fn := fun _ => fun
  | [d] => { results := [.lit (.bool true)], args := [d] }
  | _ => none }
def summaryCountsRow : OpenClaim := { program := "ytkkbepgccddjoaagreatdoor", sum := "3fd978b2523b4b539125b997de66896a0028805ee0ab4374a489d0cdfa28d138", func := "querylab/querylablaw17.SummaryCounts", spec := "summaryCounts", inPlace := ["internal/bytealg.IndexByteString", "internal/bytealg.IndexString"], unfollowed := true, recurses := true, named := ["internal/bytealg.MaxLen", "querylab/expression.operations", "querylab/value.null"], apart := false, laid := [("querylab/value.null", laid_querylab_value_null), ("querylab/expression.operations", laid_querylab_expression_operations)] }
def SummaryCountsSaid : Prop := summaryCountsRow.holds Tryz.pinned (OpenSpec.ofChange summaryCountsSpec)

/-- ITS FALSE NEIGHBOUR: 'it returns false'. Refute it at one input. -/
def summaryCountsWrong : ChangeSpec := { name := "summaryCounts", fn := fun _ => fun
  | [d] => { results := [.lit (.bool false)], args := [d] }
  | _ => none }
def SummaryCountsWrongFalsely : Prop := summaryCountsRow.holds Tryz.pinned (OpenSpec.ofChange summaryCountsWrong)

/-- 'querylablaw17.SummaryRaw': WHATEVER THE INPUT: true; the input reads as it did. -/
def summaryRawSpec : ChangeSpec := { name := "summaryRaw", fn := fun _ => fun
  | [d1, d2, d3, d4, d5, d6] => { results := [.lit (.bool true)], args := [d1, d2, d3, d4, d5, d6] }
  | _ => none }
def summaryRawRow : OpenClaim := { program := "ytkkbepgccddjoaagreatdoor", sum := "3fd978b2523b4b539125b997de66896a0028805ee0ab4374a489d0cdfa28d138", func := "querylab/querylablaw17.SummaryRaw", spec := "summaryRaw", inPlace := ["internal/bytealg.IndexByteString", "internal/bytealg.IndexString"], unfollowed := true, recurses := true, named := ["internal/bytealg.MaxLen", "querylab/expression.operations", "querylab/value.null"], loops := true, apart := false, laid := [("querylab/value.null", laid_querylab_value_null), ("querylab/expression.operations", laid_querylab_expression_operations)] }
def SummaryRawSaid : Prop := summaryRawRow.holds Tryz.pinned (OpenSpec.ofChange summaryRawSpec)

/-- ITS FALSE NEIGHBOUR: 'it returns false'. Refute it at one input. -/
def summaryRawWrong : ChangeSpec := { name := "summaryRaw", fn := fun _ => fun
  | [d1, d2, d3, d4, d5, d6] => { results := [.lit (.bool false)], args := [d1, d2, d3, d4, d5, d6] }
  | _ => none }
def SummaryRawWrongFalsely : Prop := summaryRawRow.holds Tryz.pinned (OpenSpec.ofChange summaryRawWrong)

/-- 'querylablaw17.SummaryScales': WHATEVER THE INPUT: true; the input reads as it did. -/
def summaryScalesSpec : ChangeSpec := { name := "summaryScales", fn := fun _ => fun
  | [d1, d2] => { results := [.lit (.bool true)], args := [d1, d2] }
  | _ => none }
def summaryScalesRow : OpenClaim := { program := "ytkkbepgccddjoaagreatdoor", sum := "3fd978b2523b4b539125b997de66896a0028805ee0ab4374a489d0cdfa28d138", func := "querylab/querylablaw17.SummaryScales", spec := "summaryScales", inPlace := ["internal/bytealg.IndexByteString", "internal/bytealg.IndexString"], unfollowed := true, recurses := true, named := ["internal/bytealg.MaxLen", "querylab/expression.operations", "querylab/value.null"], apart := false, laid := [("querylab/value.null", laid_querylab_value_null), ("querylab/expression.operations", laid_querylab_expression_operations)] }
def SummaryScalesSaid : Prop := summaryScalesRow.holds Tryz.pinned (OpenSpec.ofChange summaryScalesSpec)

/-- ITS FALSE NEIGHBOUR: 'it returns false'. Refute it at one input. -/
def summaryScalesWrong : ChangeSpec := { name := "summaryScales", fn := fun _ => fun
  | [d1, d2] => { results := [.lit (.bool false)], args := [d1, d2] }
  | _ => none }
def SummaryScalesWrongFalsely : Prop := summaryScalesRow.holds Tryz.pinned (OpenSpec.ofChange summaryScalesWrong)

/- THE SECOND FORM. 'bulk': how many values and letters a reading holds, each counted each time it is reached (what is shared counts as often as it is met; a slice's spare places count too). A statement '..UptoSaid' is the law's where the arguments, and the package variables that the reading takes, are together of bulk at most 1048576: NARROWER than '..Said'. Prove '..Said' where nothing that the law and all that it calls make is longer than what came in: it says more and counts as full. Else prove '..UptoSaid'. A law counts once. -/
mutual
def uptoBulk {H : Type} : DataW H → Nat
  | .lit (.string bytes) => bytes.length + 1
  | .lit _ => 1
  | .nil => 1
  | .ptr d => uptoBulk d + 1
  | .slice elems spare => uptoBulkAll elems + uptoBulkAll spare + 1
  | .agg parts => uptoBulkAll parts + 1
  | .iface _ d => uptoBulk d + 1
  | .map entries => uptoBulkEntries entries + 1
  | .held _ => 1
def uptoBulkAll {H : Type} : List (DataW H) → Nat
  | [] => 0
  | d :: r => uptoBulk d + uptoBulkAll r
def uptoBulkEntries {H : Type} : List (Lit × DataW H) → Nat
  | [] => 0
  | x :: r => uptoBulkEntry x + uptoBulkEntries r
def uptoBulkEntry {H : Type} : Lit × DataW H → Nat
  | (.string bytes, d) => bytes.length + uptoBulk d + 1
  | (_, d) => uptoBulk d + 1
 end
def uptoSmall : (H : Type) → List (DataW H) → Bool := fun _ ds => decide (uptoBulkAll ds ≤ 1048576)
def OpenSpec.upto (s : _root_.Go.ChangeSpec) : _root_.Go.OpenSpec := { _root_.Go.OpenSpec.ofChange s with cond := some uptoSmall }

/-- 'querylablaw17.SummaryAgrees', WHERE WHAT IT READS IS OF BULK AT MOST 1048576: true; the input reads as it did. -/
def summaryAgreesUptoRow : OpenClaim := { program := "ytkkbepgccddjoaagreatdoor", sum := "3fd978b2523b4b539125b997de66896a0028805ee0ab4374a489d0cdfa28d138", func := "querylab/querylablaw17.SummaryAgrees", spec := "summaryAgrees", inPlace := ["internal/bytealg.IndexByteString", "internal/bytealg.IndexString"], unfollowed := true, recurses := true, named := ["internal/bytealg.MaxLen", "querylab/expression.operations", "querylab/value.null"], apart := false, laid := [("querylab/value.null", laid_querylab_value_null), ("querylab/expression.operations", laid_querylab_expression_operations)], narrowed := true }
def SummaryAgreesUptoSaid : Prop := summaryAgreesUptoRow.holds Tryz.pinned (OpenSpec.upto summaryAgreesSpec)

/-- 'querylablaw14.DemandCounts', WHERE WHAT IT READS IS OF BULK AT MOST 1048576: true; the input reads as it did. -/
def demandCountsUptoRow : OpenClaim := { program := "ytkkbepgccddjoaagreatdoor", sum := "3fd978b2523b4b539125b997de66896a0028805ee0ab4374a489d0cdfa28d138", func := "querylab/querylablaw14.DemandCounts", spec := "demandCounts", inPlace := ["internal/bytealg.IndexByteString", "internal/bytealg.IndexString"], unfollowed := true, recurses := true, named := ["internal/bytealg.MaxLen", "querylab/expression.operations", "querylab/value.null"], apart := false, laid := [("querylab/value.null", laid_querylab_value_null), ("querylab/expression.operations", laid_querylab_expression_operations)], narrowed := true }
def DemandCountsUptoSaid : Prop := demandCountsUptoRow.holds Tryz.pinned (OpenSpec.upto demandCountsSpec)

/-- 'querylablaw17.SummaryCounts', WHERE WHAT IT READS IS OF BULK AT MOST 1048576: true; the input reads as it did. -/
def summaryCountsUptoRow : OpenClaim := { program := "ytkkbepgccddjoaagreatdoor", sum := "3fd978b2523b4b539125b997de66896a0028805ee0ab4374a489d0cdfa28d138", func := "querylab/querylablaw17.SummaryCounts", spec := "summaryCounts", inPlace := ["internal/bytealg.IndexByteString", "internal/bytealg.IndexString"], unfollowed := true, recurses := true, named := ["internal/bytealg.MaxLen", "querylab/expression.operations", "querylab/value.null"], apart := false, laid := [("querylab/value.null", laid_querylab_value_null), ("querylab/expression.operations", laid_querylab_expression_operations)], narrowed := true }
def SummaryCountsUptoSaid : Prop := summaryCountsUptoRow.holds Tryz.pinned (OpenSpec.upto summaryCountsSpec)

/-- 'querylablaw17.SummaryRaw', WHERE WHAT IT READS IS OF BULK AT MOST 1048576: true; the input reads as it did. -/
def summaryRawUptoRow : OpenClaim := { program := "ytkkbepgccddjoaagreatdoor", sum := "3fd978b2523b4b539125b997de66896a0028805ee0ab4374a489d0cdfa28d138", func := "querylab/querylablaw17.SummaryRaw", spec := "summaryRaw", inPlace := ["internal/bytealg.IndexByteString", "internal/bytealg.IndexString"], unfollowed := true, recurses := true, named := ["internal/bytealg.MaxLen", "querylab/expression.operations", "querylab/value.null"], loops := true, apart := false, laid := [("querylab/value.null", laid_querylab_value_null), ("querylab/expression.operations", laid_querylab_expression_operations)], narrowed := true }
def SummaryRawUptoSaid : Prop := summaryRawUptoRow.holds Tryz.pinned (OpenSpec.upto summaryRawSpec)

/-- 'querylablaw17.SummaryScales', WHERE WHAT IT READS IS OF BULK AT MOST 1048576: true; the input reads as it did. -/
def summaryScalesUptoRow : OpenClaim := { program := "ytkkbepgccddjoaagreatdoor", sum := "3fd978b2523b4b539125b997de66896a0028805ee0ab4374a489d0cdfa28d138", func := "querylab/querylablaw17.SummaryScales", spec := "summaryScales", inPlace := ["internal/bytealg.IndexByteString", "internal/bytealg.IndexString"], unfollowed := true, recurses := true, named := ["internal/bytealg.MaxLen", "querylab/expression.operations", "querylab/value.null"], apart := false, laid := [("querylab/value.null", laid_querylab_value_null), ("querylab/expression.operations", laid_querylab_expression_operations)], narrowed := true }
def SummaryScalesUptoSaid : Prop := summaryScalesUptoRow.holds Tryz.pinned (OpenSpec.upto summaryScalesSpec)

end Rows
end Go.Proofs.YtkkbepgccddjoaaGreatDoor
