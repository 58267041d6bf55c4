/-
  NARROWER THAN 'FOR EVERY INPUT', by the rows' own cells (each row's printed sentence says how): ExpressionSame: loops · ExpressionColumns: loops.
  DERIVED. THE GIVEN ROWS OF THIS SEAT. 4 by the template 'for every input the law returns true; each argument reads behind the call as it read before'; 0 by the template 'total and deterministic' (their statements: YtnbbnkmaoaogeaaTotals.lean).
  GIVEN WITH THE SEED: the statements are not yours to turn. If you find one false, say at which input.
  Laid BY PROGRAM, IN A SANDBOX (cutbox-rows.mjs): the forced cells as the released guide's own fill.sh prints them over the translation 1595de6bc9a4aa55… (all of the seat's roots in one cut). By AI agents, Wed Nov 11 2026. No macro, syntax, notation, axiom, sorry.
-/
import Derived.Test.YtnbbnkmaoaogeaaChecked
import GoSem.Claim
import GoSem.ClaimJoined
import GoSem.ClaimMapViews
import Derived.JoinedTies
import Derived.KernelRfl
namespace Go.Proofs.Ytnbbnkmaoaogeaa
/- THE CELL 'sum', in the pinned program and in every row, IS THE sha256 OF THE DUMP (.gsa) THAT YtnbbnkmaoaogeaaProg.lean LOADS. Nothing in Lean hashes anything: it is a label: what it is worth is what the hold of that sum in a sandbox is worth. -/
noncomputable def Try.pinned : Pinned := { name := "ytnbbnkmaoaogeaa", sum := "1595de6bc9a4aa55dce57f8baf38b903fd69cf717020b4601d891f71d5bb1d28", checked := Try.checked }
namespace Rows
def none {H : Type} : Left H := { results := [], args := [] }

/-- 'querylablaw02.ExpressionSame': WHATEVER THE INPUT: true; the input reads as it did. -/
def expressionSameSpec : ChangeSpec := { name := "expressionSame", fn := fun _ => fun
  | [d1, d2, d3, d4] => { results := [.lit (.bool true)], args := [d1, d2, d3, d4] }
  | _ => none }
def expressionSameRow : OpenClaim := { program := "ytnbbnkmaoaogeaa", sum := "1595de6bc9a4aa55dce57f8baf38b903fd69cf717020b4601d891f71d5bb1d28", func := "querylab/querylablaw02.ExpressionSame", spec := "expressionSame", unfollowed := true, recurses := true, loops := true, apart := false }
def ExpressionSameSaid : Prop := expressionSameRow.holds Try.pinned (OpenSpec.ofChange expressionSameSpec)

/-- ITS FALSE NEIGHBOUR: 'it returns false'. Refute it at one input. -/
def expressionSameWrong : ChangeSpec := { name := "expressionSame", fn := fun _ => fun
  | [d1, d2, d3, d4] => { results := [.lit (.bool false)], args := [d1, d2, d3, d4] }
  | _ => none }
def ExpressionSameWrongFalsely : Prop := expressionSameRow.holds Try.pinned (OpenSpec.ofChange expressionSameWrong)

/-- 'querylablaw01.ValueRows': WHATEVER THE INPUT: true; the input reads as it did. -/
def valueRowsSpec : ChangeSpec := { name := "valueRows", fn := fun _ => fun
  | [d1, d2] => { results := [.lit (.bool true)], args := [d1, d2] }
  | _ => none }
def valueRowsRow : OpenClaim := { program := "ytnbbnkmaoaogeaa", sum := "1595de6bc9a4aa55dce57f8baf38b903fd69cf717020b4601d891f71d5bb1d28", func := "querylab/querylablaw01.ValueRows", spec := "valueRows", unfollowed := true, recurses := true, apart := false }
def ValueRowsSaid : Prop := valueRowsRow.holds Try.pinned (OpenSpec.ofChange valueRowsSpec)

/-- ITS FALSE NEIGHBOUR: 'it returns false'. Refute it at one input. -/
def valueRowsWrong : ChangeSpec := { name := "valueRows", fn := fun _ => fun
  | [d1, d2] => { results := [.lit (.bool false)], args := [d1, d2] }
  | _ => none }
def ValueRowsWrongFalsely : Prop := valueRowsRow.holds Try.pinned (OpenSpec.ofChange valueRowsWrong)

/-- 'querylablaw01.ValueCompares': WHATEVER THE INPUT: true; the input reads as it did. -/
def valueComparesSpec : ChangeSpec := { name := "valueCompares", fn := fun _ => fun
  | [d1, d2, d3] => { results := [.lit (.bool true)], args := [d1, d2, d3] }
  | _ => none }
def valueComparesRow : OpenClaim := { program := "ytnbbnkmaoaogeaa", sum := "1595de6bc9a4aa55dce57f8baf38b903fd69cf717020b4601d891f71d5bb1d28", func := "querylab/querylablaw01.ValueCompares", spec := "valueCompares", unfollowed := true, recurses := true, apart := false }
def ValueComparesSaid : Prop := valueComparesRow.holds Try.pinned (OpenSpec.ofChange valueComparesSpec)

/-- ITS FALSE NEIGHBOUR: 'it returns false'. Refute it at one input. -/
def valueComparesWrong : ChangeSpec := { name := "valueCompares", fn := fun _ => fun
  | [d1, d2, d3] => { results := [.lit (.bool false)], args := [d1, d2, d3] }
  | _ => none }
def ValueComparesWrongFalsely : Prop := valueComparesRow.holds Try.pinned (OpenSpec.ofChange valueComparesWrong)

/-- 'querylablaw02.ExpressionColumns': WHATEVER THE INPUT: true; the input reads as it did. -/
def expressionColumnsSpec : ChangeSpec := { name := "expressionColumns", fn := fun _ => fun
  | [d1, d2] => { results := [.lit (.bool true)], args := [d1, d2] }
  | _ => none }
def expressionColumnsRow : OpenClaim := { program := "ytnbbnkmaoaogeaa", sum := "1595de6bc9a4aa55dce57f8baf38b903fd69cf717020b4601d891f71d5bb1d28", func := "querylab/querylablaw02.ExpressionColumns", spec := "expressionColumns", recurses := true, loops := true, apart := false }
def ExpressionColumnsSaid : Prop := expressionColumnsRow.holds Try.pinned (OpenSpec.ofChange expressionColumnsSpec)

/-- ITS FALSE NEIGHBOUR: 'it returns false'. Refute it at one input. -/
def expressionColumnsWrong : ChangeSpec := { name := "expressionColumns", fn := fun _ => fun
  | [d1, d2] => { results := [.lit (.bool false)], args := [d1, d2] }
  | _ => none }
def ExpressionColumnsWrongFalsely : Prop := expressionColumnsRow.holds Try.pinned (OpenSpec.ofChange expressionColumnsWrong)

/- THE SECOND FORM. 'bulk': how many values and letters a reading holds, each counted each time it is reached (what is shared counts as often as it is met; a slice's spare places count too). A statement '..UptoSaid' is the law's where the arguments, and the package variables that the reading takes, are together of bulk at most 1048576: NARROWER than '..Said'. Prove '..Said' where nothing that the law and all that it calls make is longer than what came in: it says more and counts as full. Else prove '..UptoSaid'. A law counts once. -/
mutual
def uptoBulk {H : Type} : DataW H → Nat
  | .lit (.string bytes) => bytes.length + 1
  | .lit _ => 1
  | .nil => 1
  | .ptr d => uptoBulk d + 1
  | .slice elems spare => uptoBulkAll elems + uptoBulkAll spare + 1
  | .agg parts => uptoBulkAll parts + 1
  | .iface _ d => uptoBulk d + 1
  | .map entries => uptoBulkEntries entries + 1
  | .held _ => 1
def uptoBulkAll {H : Type} : List (DataW H) → Nat
  | [] => 0
  | d :: r => uptoBulk d + uptoBulkAll r
def uptoBulkEntries {H : Type} : List (Lit × DataW H) → Nat
  | [] => 0
  | x :: r => uptoBulkEntry x + uptoBulkEntries r
def uptoBulkEntry {H : Type} : Lit × DataW H → Nat
  | (.string bytes, d) => bytes.length + uptoBulk d + 1
  | (_, d) => uptoBulk d + 1
 end
def uptoSmall : (H : Type) → List (DataW H) → Bool := fun _ ds => decide (uptoBulkAll ds ≤ 1048576)
def OpenSpec.upto (s : _root_.Go.ChangeSpec) : _root_.Go.OpenSpec := { _root_.Go.OpenSpec.ofChange s with cond := some uptoSmall }

/-- 'querylablaw02.ExpressionSame', WHERE WHAT IT READS IS OF BULK AT MOST 1048576: true; the input reads as it did. -/
def expressionSameUptoRow : OpenClaim := { program := "ytnbbnkmaoaogeaa", sum := "1595de6bc9a4aa55dce57f8baf38b903fd69cf717020b4601d891f71d5bb1d28", func := "querylab/querylablaw02.ExpressionSame", spec := "expressionSame", unfollowed := true, recurses := true, loops := true, apart := false, narrowed := true }
def ExpressionSameUptoSaid : Prop := expressionSameUptoRow.holds Try.pinned (OpenSpec.upto expressionSameSpec)

/-- 'querylablaw01.ValueRows', WHERE WHAT IT READS IS OF BULK AT MOST 1048576: true; the input reads as it did. -/
def valueRowsUptoRow : OpenClaim := { program := "ytnbbnkmaoaogeaa", sum := "1595de6bc9a4aa55dce57f8baf38b903fd69cf717020b4601d891f71d5bb1d28", func := "querylab/querylablaw01.ValueRows", spec := "valueRows", unfollowed := true, recurses := true, apart := false, narrowed := true }
def ValueRowsUptoSaid : Prop := valueRowsUptoRow.holds Try.pinned (OpenSpec.upto valueRowsSpec)

/-- 'querylablaw01.ValueCompares', WHERE WHAT IT READS IS OF BULK AT MOST 1048576: true; the input reads as it did. -/
def valueComparesUptoRow : OpenClaim := { program := "ytnbbnkmaoaogeaa", sum := "1595de6bc9a4aa55dce57f8baf38b903fd69cf717020b4601d891f71d5bb1d28", func := "querylab/querylablaw01.ValueCompares", spec := "valueCompares", unfollowed := true, recurses := true, apart := false, narrowed := true }
def ValueComparesUptoSaid : Prop := valueComparesUptoRow.holds Try.pinned (OpenSpec.upto valueComparesSpec)

/-- 'querylablaw02.ExpressionColumns', WHERE WHAT IT READS IS OF BULK AT MOST 1048576: true; the input reads as it did. -/
def expressionColumnsUptoRow : OpenClaim := { program := "ytnbbnkmaoaogeaa", sum := "1595de6bc9a4aa55dce57f8baf38b903fd69cf717020b4601d891f71d5bb1d28", func := "querylab/querylablaw02.ExpressionColumns", spec := "expressionColumns", recurses := true, loops := true, apart := false, narrowed := true }
def ExpressionColumnsUptoSaid : Prop := expressionColumnsUptoRow.holds Try.pinned (OpenSpec.upto expressionColumnsSpec)

end Rows
end Go.Proofs.Ytnbbnkmaoaogeaa
