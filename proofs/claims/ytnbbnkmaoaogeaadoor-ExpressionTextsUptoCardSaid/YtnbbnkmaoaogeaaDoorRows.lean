/-
  NARROWER THAN 'FOR EVERY INPUT', by the rows' own cells (each row's printed sentence says how): ValueDuals: laid · ValueMonotone: laid · ValueArith: laid · ValueDivides: laid · ValueLogic: laid · ExpressionDecides: laid · ExpressionShifts: laid · ExpressionTyped: laid · ValueTexts: laid · ExpressionTexts: loops, laid.
  DERIVED. THE GIVEN ROWS OF THIS SEAT. 10 by the template 'for every input the law returns true; each argument reads behind the call as it read before'; 0 by the template 'total and deterministic' (their statements: YtnbbnkmaoaogeaaDoorTotals.lean).
  GIVEN WITH THE SEED: the statements are not yours to turn. If you find one false, say at which input.
  Laid BY PROGRAM, IN A SANDBOX (cutbox-rows.mjs): the forced cells as the released guide's own fill.sh prints them over the translation e490323aef6b8e45… (all of the seat's roots in one cut). By AI agents, Wed Nov 11 2026. No macro, syntax, notation, axiom, sorry.
-/
import Derived.Test.YtnbbnkmaoaogeaaDoorChecked
import GoSem.Claim
import GoSem.ClaimJoined
import GoSem.ClaimMapViews
import Derived.JoinedTies
import Derived.KernelRfl
namespace Go.Proofs.YtnbbnkmaoaogeaaDoor
/- THE CELL 'sum', in the pinned program and in every row, IS THE sha256 OF THE DUMP (.gsa) THAT YtnbbnkmaoaogeaaDoorProg.lean LOADS. Nothing in Lean hashes anything: it is a label: what it is worth is what the hold of that sum in a sandbox is worth. -/
noncomputable def Tryd.pinned : Pinned := { name := "ytnbbnkmaoaogeaadoor", sum := "e490323aef6b8e45ec2147cf526991a913486d4e08aa3c876980053a9d2527f4", checked := Tryd.checked }
namespace Rows
def none {H : Type} : Left H := { results := [], args := [] }

/- WHAT THE LISTED PACKAGE-LEVEL VARIABLES READ AS WHEN THE CALL BEGINS. Each datum BY PROGRAM (the guide's laid-datum.mjs) off the statement by which the dump's own 'gosem.cut.vars' lays the variable. In a bare row this is a premise. The card (YtnbbnkmaoaogeaaDoorCards.lean) ties it to the program's text. -/
def laid_querylab_value_null {H : Type} : DataW H := .agg [.lit (.int .i64 0), .lit (.int .i64 0), .lit (.string [])]
def laid_querylab_expression_operations {H : Type} : DataW H := .agg [.agg [.lit (.string []), .lit (.int .i64 0), .lit (.int .i64 0), .lit (.int .i64 0)], .agg [.lit (.string [110, 117, 108, 108]), .lit (.int .i64 0), .lit (.int .i64 0), .lit (.int .i64 0)], .agg [.lit (.string [105, 110, 116]), .lit (.int .i64 0), .lit (.int .i64 0), .lit (.int .i64 1)], .agg [.lit (.string [98, 111, 111, 108]), .lit (.int .i64 0), .lit (.int .i64 0), .lit (.int .i64 2)], .agg [.lit (.string [116, 101, 120, 116]), .lit (.int .i64 0), .lit (.int .i64 0), .lit (.int .i64 3)], .agg [.lit (.string [99, 111, 108, 117, 109, 110]), .lit (.int .i64 0), .lit (.int .i64 0), .lit (.int .i64 0)], .agg [.lit (.string [97, 100, 100]), .lit (.int .i64 2), .lit (.int .i64 1), .lit (.int .i64 1)], .agg [.lit (.string [115, 117, 98]), .lit (.int .i64 2), .lit (.int .i64 1), .lit (.int .i64 1)], .agg [.lit (.string [109, 117, 108]), .lit (.int .i64 2), .lit (.int .i64 1), .lit (.int .i64 1)], .agg [.lit (.string [100, 105, 118]), .lit (.int .i64 2), .lit (.int .i64 1), .lit (.int .i64 1)], .agg [.lit (.string [109, 111, 100]), .lit (.int .i64 2), .lit (.int .i64 1), .lit (.int .i64 1)], .agg [.lit (.string [110, 101, 103]), .lit (.int .i64 1), .lit (.int .i64 1), .lit (.int .i64 1)], .agg [.lit (.string [99, 111, 110, 99, 97, 116]), .lit (.int .i64 2), .lit (.int .i64 2), .lit (.int .i64 3)], .agg [.lit (.string [108, 101, 110, 103, 116, 104]), .lit (.int .i64 1), .lit (.int .i64 2), .lit (.int .i64 1)], .agg [.lit (.string [101, 113]), .lit (.int .i64 2), .lit (.int .i64 4), .lit (.int .i64 2)], .agg [.lit (.string [110, 101]), .lit (.int .i64 2), .lit (.int .i64 4), .lit (.int .i64 2)], .agg [.lit (.string [108, 116]), .lit (.int .i64 2), .lit (.int .i64 4), .lit (.int .i64 2)], .agg [.lit (.string [108, 101]), .lit (.int .i64 2), .lit (.int .i64 4), .lit (.int .i64 2)], .agg [.lit (.string [103, 116]), .lit (.int .i64 2), .lit (.int .i64 4), .lit (.int .i64 2)], .agg [.lit (.string [103, 101]), .lit (.int .i64 2), .lit (.int .i64 4), .lit (.int .i64 2)], .agg [.lit (.string [115, 97, 109, 101]), .lit (.int .i64 2), .lit (.int .i64 4), .lit (.int .i64 2)], .agg [.lit (.string [105, 115, 110, 117, 108, 108]), .lit (.int .i64 1), .lit (.int .i64 5), .lit (.int .i64 2)], .agg [.lit (.string [97, 110, 100]), .lit (.int .i64 2), .lit (.int .i64 3), .lit (.int .i64 2)], .agg [.lit (.string [111, 114]), .lit (.int .i64 2), .lit (.int .i64 3), .lit (.int .i64 2)], .agg [.lit (.string [110, 111, 116]), .lit (.int .i64 1), .lit (.int .i64 3), .lit (.int .i64 2)], .agg [.lit (.string [105, 115, 116, 114, 117, 101]), .lit (.int .i64 1), .lit (.int .i64 3), .lit (.int .i64 2)], .agg [.lit (.string [99, 97, 115, 101]), .lit (.int .i64 3), .lit (.int .i64 6), .lit (.int .i64 0)], .agg [.lit (.string [99, 111, 97, 108, 101, 115, 99, 101]), .lit (.int .i64 2), .lit (.int .i64 4), .lit (.int .i64 0)], .agg [.lit (.string [105, 110]), .lit (.int .i64 2), .lit (.int .i64 4), .lit (.int .i64 2)]]
def laid_math_bits_deBruijn32tab {H : Type} : DataW H := .agg [.lit (.int .u8 0), .lit (.int .u8 1), .lit (.int .u8 28), .lit (.int .u8 2), .lit (.int .u8 29), .lit (.int .u8 14), .lit (.int .u8 24), .lit (.int .u8 3), .lit (.int .u8 30), .lit (.int .u8 22), .lit (.int .u8 20), .lit (.int .u8 15), .lit (.int .u8 25), .lit (.int .u8 17), .lit (.int .u8 4), .lit (.int .u8 8), .lit (.int .u8 31), .lit (.int .u8 27), .lit (.int .u8 13), .lit (.int .u8 23), .lit (.int .u8 21), .lit (.int .u8 19), .lit (.int .u8 16), .lit (.int .u8 7), .lit (.int .u8 26), .lit (.int .u8 12), .lit (.int .u8 18), .lit (.int .u8 6), .lit (.int .u8 11), .lit (.int .u8 5), .lit (.int .u8 10), .lit (.int .u8 9)]
def laid_math_bits_deBruijn64tab {H : Type} : DataW H := .agg [.lit (.int .u8 0), .lit (.int .u8 1), .lit (.int .u8 56), .lit (.int .u8 2), .lit (.int .u8 57), .lit (.int .u8 49), .lit (.int .u8 28), .lit (.int .u8 3), .lit (.int .u8 61), .lit (.int .u8 58), .lit (.int .u8 42), .lit (.int .u8 50), .lit (.int .u8 38), .lit (.int .u8 29), .lit (.int .u8 17), .lit (.int .u8 4), .lit (.int .u8 62), .lit (.int .u8 47), .lit (.int .u8 59), .lit (.int .u8 36), .lit (.int .u8 45), .lit (.int .u8 43), .lit (.int .u8 51), .lit (.int .u8 22), .lit (.int .u8 53), .lit (.int .u8 39), .lit (.int .u8 33), .lit (.int .u8 30), .lit (.int .u8 24), .lit (.int .u8 18), .lit (.int .u8 12), .lit (.int .u8 5), .lit (.int .u8 63), .lit (.int .u8 55), .lit (.int .u8 48), .lit (.int .u8 27), .lit (.int .u8 60), .lit (.int .u8 41), .lit (.int .u8 37), .lit (.int .u8 16), .lit (.int .u8 46), .lit (.int .u8 35), .lit (.int .u8 44), .lit (.int .u8 21), .lit (.int .u8 52), .lit (.int .u8 32), .lit (.int .u8 23), .lit (.int .u8 11), .lit (.int .u8 54), .lit (.int .u8 26), .lit (.int .u8 40), .lit (.int .u8 15), .lit (.int .u8 34), .lit (.int .u8 20), .lit (.int .u8 31), .lit (.int .u8 10), .lit (.int .u8 25), .lit (.int .u8 14), .lit (.int .u8 19), .lit (.int .u8 9), .lit (.int .u8 13), .lit (.int .u8 8), .lit (.int .u8 7), .lit (.int .u8 6)]
def laid_internal_strconv_uint64pow10 {H : Type} : DataW H := .agg [.lit (.int .u64 1), .lit (.int .u64 10), .lit (.int .u64 100), .lit (.int .u64 1000), .lit (.int .u64 10000), .lit (.int .u64 100000), .lit (.int .u64 1000000), .lit (.int .u64 10000000), .lit (.int .u64 100000000), .lit (.int .u64 1000000000), .lit (.int .u64 10000000000), .lit (.int .u64 100000000000), .lit (.int .u64 1000000000000), .lit (.int .u64 10000000000000), .lit (.int .u64 100000000000000), .lit (.int .u64 1000000000000000), .lit (.int .u64 10000000000000000), .lit (.int .u64 100000000000000000), .lit (.int .u64 1000000000000000000), .lit (.int .u64 10000000000000000000)]
def laid_strconv_ErrRange {H : Type} : DataW H := .iface "*errors.errorString" (.ptr (.agg [.lit (.string [118, 97, 108, 117, 101, 32, 111, 117, 116, 32, 111, 102, 32, 114, 97, 110, 103, 101])]))
def laid_strconv_ErrSyntax {H : Type} : DataW H := .iface "*errors.errorString" (.ptr (.agg [.lit (.string [105, 110, 118, 97, 108, 105, 100, 32, 115, 121, 110, 116, 97, 120])]))

/-- 'querylablaw01.ValueDuals': WHATEVER THE INPUT: true; the input reads as it did. -/
def valueDualsSpec : ChangeSpec := { name := "valueDuals", fn := fun _ => fun
  | [d1, d2, d3] => { results := [.lit (.bool true)], args := [d1, d2, d3] }
  | _ => none }
def valueDualsRow : OpenClaim := { program := "ytnbbnkmaoaogeaadoor", sum := "e490323aef6b8e45ec2147cf526991a913486d4e08aa3c876980053a9d2527f4", func := "querylab/querylablaw01.ValueDuals", spec := "valueDuals", named := ["querylab/value.null"], apart := false, laid := [("querylab/value.null", laid_querylab_value_null)] }
def ValueDualsSaid : Prop := valueDualsRow.holds Tryd.pinned (OpenSpec.ofChange valueDualsSpec)

/-- ITS FALSE NEIGHBOUR: 'it returns false'. Refute it at one input. -/
def valueDualsWrong : ChangeSpec := { name := "valueDuals", fn := fun _ => fun
  | [d1, d2, d3] => { results := [.lit (.bool false)], args := [d1, d2, d3] }
  | _ => none }
def ValueDualsWrongFalsely : Prop := valueDualsRow.holds Tryd.pinned (OpenSpec.ofChange valueDualsWrong)

/-- 'querylablaw01.ValueMonotone': WHATEVER THE INPUT: true; the input reads as it did. -/
def valueMonotoneSpec : ChangeSpec := { name := "valueMonotone", fn := fun _ => fun
  | [d1, d2] => { results := [.lit (.bool true)], args := [d1, d2] }
  | _ => none }
def valueMonotoneRow : OpenClaim := { program := "ytnbbnkmaoaogeaadoor", sum := "e490323aef6b8e45ec2147cf526991a913486d4e08aa3c876980053a9d2527f4", func := "querylab/querylablaw01.ValueMonotone", spec := "valueMonotone", named := ["querylab/value.null"], apart := false, laid := [("querylab/value.null", laid_querylab_value_null)] }
def ValueMonotoneSaid : Prop := valueMonotoneRow.holds Tryd.pinned (OpenSpec.ofChange valueMonotoneSpec)

/-- ITS FALSE NEIGHBOUR: 'it returns false'. Refute it at one input. -/
def valueMonotoneWrong : ChangeSpec := { name := "valueMonotone", fn := fun _ => fun
  | [d1, d2] => { results := [.lit (.bool false)], args := [d1, d2] }
  | _ => none }
def ValueMonotoneWrongFalsely : Prop := valueMonotoneRow.holds Tryd.pinned (OpenSpec.ofChange valueMonotoneWrong)

/-- 'querylablaw01.ValueArith': WHATEVER THE INPUT: true; the input reads as it did. -/
def valueArithSpec : ChangeSpec := { name := "valueArith", fn := fun _ => fun
  | [d1, d2, d3] => { results := [.lit (.bool true)], args := [d1, d2, d3] }
  | _ => none }
def valueArithRow : OpenClaim := { program := "ytnbbnkmaoaogeaadoor", sum := "e490323aef6b8e45ec2147cf526991a913486d4e08aa3c876980053a9d2527f4", func := "querylab/querylablaw01.ValueArith", spec := "valueArith", unfollowed := true, recurses := true, named := ["querylab/value.null"], apart := false, laid := [("querylab/value.null", laid_querylab_value_null)] }
def ValueArithSaid : Prop := valueArithRow.holds Tryd.pinned (OpenSpec.ofChange valueArithSpec)

/-- ITS FALSE NEIGHBOUR: 'it returns false'. Refute it at one input. -/
def valueArithWrong : ChangeSpec := { name := "valueArith", fn := fun _ => fun
  | [d1, d2, d3] => { results := [.lit (.bool false)], args := [d1, d2, d3] }
  | _ => none }
def ValueArithWrongFalsely : Prop := valueArithRow.holds Tryd.pinned (OpenSpec.ofChange valueArithWrong)

/-- 'querylablaw01.ValueDivides': WHATEVER THE INPUT: true; the input reads as it did. -/
def valueDividesSpec : ChangeSpec := { name := "valueDivides", fn := fun _ => fun
  | [d1, d2] => { results := [.lit (.bool true)], args := [d1, d2] }
  | _ => none }
def valueDividesRow : OpenClaim := { program := "ytnbbnkmaoaogeaadoor", sum := "e490323aef6b8e45ec2147cf526991a913486d4e08aa3c876980053a9d2527f4", func := "querylab/querylablaw01.ValueDivides", spec := "valueDivides", unfollowed := true, recurses := true, named := ["querylab/value.null"], apart := false, laid := [("querylab/value.null", laid_querylab_value_null)] }
def ValueDividesSaid : Prop := valueDividesRow.holds Tryd.pinned (OpenSpec.ofChange valueDividesSpec)

/-- ITS FALSE NEIGHBOUR: 'it returns false'. Refute it at one input. -/
def valueDividesWrong : ChangeSpec := { name := "valueDivides", fn := fun _ => fun
  | [d1, d2] => { results := [.lit (.bool false)], args := [d1, d2] }
  | _ => none }
def ValueDividesWrongFalsely : Prop := valueDividesRow.holds Tryd.pinned (OpenSpec.ofChange valueDividesWrong)

/-- 'querylablaw01.ValueLogic': WHATEVER THE INPUT: true; the input reads as it did. -/
def valueLogicSpec : ChangeSpec := { name := "valueLogic", fn := fun _ => fun
  | [d1, d2, d3] => { results := [.lit (.bool true)], args := [d1, d2, d3] }
  | _ => none }
def valueLogicRow : OpenClaim := { program := "ytnbbnkmaoaogeaadoor", sum := "e490323aef6b8e45ec2147cf526991a913486d4e08aa3c876980053a9d2527f4", func := "querylab/querylablaw01.ValueLogic", spec := "valueLogic", named := ["querylab/value.null"], apart := false, laid := [("querylab/value.null", laid_querylab_value_null)] }
def ValueLogicSaid : Prop := valueLogicRow.holds Tryd.pinned (OpenSpec.ofChange valueLogicSpec)

/-- ITS FALSE NEIGHBOUR: 'it returns false'. Refute it at one input. -/
def valueLogicWrong : ChangeSpec := { name := "valueLogic", fn := fun _ => fun
  | [d1, d2, d3] => { results := [.lit (.bool false)], args := [d1, d2, d3] }
  | _ => none }
def ValueLogicWrongFalsely : Prop := valueLogicRow.holds Tryd.pinned (OpenSpec.ofChange valueLogicWrong)

/-- 'querylablaw02.ExpressionDecides': WHATEVER THE INPUT: true; the input reads as it did. -/
def expressionDecidesSpec : ChangeSpec := { name := "expressionDecides", fn := fun _ => fun
  | [d] => { results := [.lit (.bool true)], args := [d] }
  | _ => none }
def expressionDecidesRow : OpenClaim := { program := "ytnbbnkmaoaogeaadoor", sum := "e490323aef6b8e45ec2147cf526991a913486d4e08aa3c876980053a9d2527f4", func := "querylab/querylablaw02.ExpressionDecides", spec := "expressionDecides", unfollowed := true, recurses := true, named := ["querylab/expression.operations", "querylab/value.null"], apart := false, laid := [("querylab/value.null", laid_querylab_value_null), ("querylab/expression.operations", laid_querylab_expression_operations)] }
def ExpressionDecidesSaid : Prop := expressionDecidesRow.holds Tryd.pinned (OpenSpec.ofChange expressionDecidesSpec)

/-- ITS FALSE NEIGHBOUR: 'it returns false'. Refute it at one input. -/
def expressionDecidesWrong : ChangeSpec := { name := "expressionDecides", fn := fun _ => fun
  | [d] => { results := [.lit (.bool false)], args := [d] }
  | _ => none }
def ExpressionDecidesWrongFalsely : Prop := expressionDecidesRow.holds Tryd.pinned (OpenSpec.ofChange expressionDecidesWrong)

/-- 'querylablaw02.ExpressionShifts': WHATEVER THE INPUT: true; the input reads as it did. -/
def expressionShiftsSpec : ChangeSpec := { name := "expressionShifts", fn := fun _ => fun
  | [d1, d2] => { results := [.lit (.bool true)], args := [d1, d2] }
  | _ => none }
def expressionShiftsRow : OpenClaim := { program := "ytnbbnkmaoaogeaadoor", sum := "e490323aef6b8e45ec2147cf526991a913486d4e08aa3c876980053a9d2527f4", func := "querylab/querylablaw02.ExpressionShifts", spec := "expressionShifts", unfollowed := true, recurses := true, named := ["querylab/expression.operations", "querylab/value.null"], apart := false, laid := [("querylab/value.null", laid_querylab_value_null), ("querylab/expression.operations", laid_querylab_expression_operations)] }
def ExpressionShiftsSaid : Prop := expressionShiftsRow.holds Tryd.pinned (OpenSpec.ofChange expressionShiftsSpec)

/-- ITS FALSE NEIGHBOUR: 'it returns false'. Refute it at one input. -/
def expressionShiftsWrong : ChangeSpec := { name := "expressionShifts", fn := fun _ => fun
  | [d1, d2] => { results := [.lit (.bool false)], args := [d1, d2] }
  | _ => none }
def ExpressionShiftsWrongFalsely : Prop := expressionShiftsRow.holds Tryd.pinned (OpenSpec.ofChange expressionShiftsWrong)

/-- 'querylablaw02.ExpressionTyped': WHATEVER THE INPUT: true; the input reads as it did. -/
def expressionTypedSpec : ChangeSpec := { name := "expressionTyped", fn := fun _ => fun
  | [d] => { results := [.lit (.bool true)], args := [d] }
  | _ => none }
def expressionTypedRow : OpenClaim := { program := "ytnbbnkmaoaogeaadoor", sum := "e490323aef6b8e45ec2147cf526991a913486d4e08aa3c876980053a9d2527f4", func := "querylab/querylablaw02.ExpressionTyped", spec := "expressionTyped", unfollowed := true, recurses := true, named := ["querylab/expression.operations", "querylab/value.null"], apart := false, laid := [("querylab/value.null", laid_querylab_value_null), ("querylab/expression.operations", laid_querylab_expression_operations)] }
def ExpressionTypedSaid : Prop := expressionTypedRow.holds Tryd.pinned (OpenSpec.ofChange expressionTypedSpec)

/-- ITS FALSE NEIGHBOUR: 'it returns false'. Refute it at one input. -/
def expressionTypedWrong : ChangeSpec := { name := "expressionTyped", fn := fun _ => fun
  | [d] => { results := [.lit (.bool false)], args := [d] }
  | _ => none }
def ExpressionTypedWrongFalsely : Prop := expressionTypedRow.holds Tryd.pinned (OpenSpec.ofChange expressionTypedWrong)

/-- 'querylablaw01.ValueTexts': WHATEVER THE INPUT: true; the input reads as it did. -/
def valueTextsSpec : ChangeSpec := { name := "valueTexts", fn := fun _ => fun
  | [d1, d2] => { results := [.lit (.bool true)], args := [d1, d2] }
  | _ => none }
def valueTextsRow : OpenClaim := { program := "ytnbbnkmaoaogeaadoor", sum := "e490323aef6b8e45ec2147cf526991a913486d4e08aa3c876980053a9d2527f4", func := "querylab/querylablaw01.ValueTexts", spec := "valueTexts", unfollowed := true, recurses := true, named := ["querylab/value.null", "strconv.ErrSyntax", "strconv.ErrRange", "internal/strconv.uint64pow10", "math/bits.deBruijn32tab", "math/bits.deBruijn64tab"], apart := false, laid := [("math/bits.deBruijn32tab", laid_math_bits_deBruijn32tab), ("math/bits.deBruijn64tab", laid_math_bits_deBruijn64tab), ("internal/strconv.uint64pow10", laid_internal_strconv_uint64pow10), ("strconv.ErrRange", laid_strconv_ErrRange), ("strconv.ErrSyntax", laid_strconv_ErrSyntax), ("querylab/value.null", laid_querylab_value_null)] }
def ValueTextsSaid : Prop := valueTextsRow.holds Tryd.pinned (OpenSpec.ofChange valueTextsSpec)

/-- ITS FALSE NEIGHBOUR: 'it returns false'. Refute it at one input. -/
def valueTextsWrong : ChangeSpec := { name := "valueTexts", fn := fun _ => fun
  | [d1, d2] => { results := [.lit (.bool false)], args := [d1, d2] }
  | _ => none }
def ValueTextsWrongFalsely : Prop := valueTextsRow.holds Tryd.pinned (OpenSpec.ofChange valueTextsWrong)

/-- 'querylablaw02.ExpressionTexts': WHATEVER THE INPUT: true; the input reads as it did. -/
def expressionTextsSpec : ChangeSpec := { name := "expressionTexts", fn := fun _ => fun
  | [d1, d2] => { results := [.lit (.bool true)], args := [d1, d2] }
  | _ => none }
def expressionTextsRow : OpenClaim := { program := "ytnbbnkmaoaogeaadoor", sum := "e490323aef6b8e45ec2147cf526991a913486d4e08aa3c876980053a9d2527f4", func := "querylab/querylablaw02.ExpressionTexts", spec := "expressionTexts", inPlace := ["internal/abi.NoEscape", "internal/bytealg.MakeNoZero"], unfollowed := true, recurses := true, named := ["querylab/expression.operations", "querylab/value.null", "internal/strconv.uint64pow10", "math/bits.deBruijn32tab", "math/bits.deBruijn64tab"], loops := true, apart := false, laid := [("math/bits.deBruijn32tab", laid_math_bits_deBruijn32tab), ("math/bits.deBruijn64tab", laid_math_bits_deBruijn64tab), ("internal/strconv.uint64pow10", laid_internal_strconv_uint64pow10), ("querylab/value.null", laid_querylab_value_null), ("querylab/expression.operations", laid_querylab_expression_operations)] }
def ExpressionTextsSaid : Prop := expressionTextsRow.holds Tryd.pinned (OpenSpec.ofChange expressionTextsSpec)

/-- ITS FALSE NEIGHBOUR: 'it returns false'. Refute it at one input. -/
def expressionTextsWrong : ChangeSpec := { name := "expressionTexts", fn := fun _ => fun
  | [d1, d2] => { results := [.lit (.bool false)], args := [d1, d2] }
  | _ => none }
def ExpressionTextsWrongFalsely : Prop := expressionTextsRow.holds Tryd.pinned (OpenSpec.ofChange expressionTextsWrong)

/- THE SECOND FORM. 'bulk': how many values and letters a reading holds, each counted each time it is reached (what is shared counts as often as it is met; a slice's spare places count too). A statement '..UptoSaid' is the law's where the arguments, and the package variables that the reading takes, are together of bulk at most 1048576: NARROWER than '..Said'. Prove '..Said' where nothing that the law and all that it calls make is longer than what came in: it says more and counts as full. Else prove '..UptoSaid'. A law counts once. -/
mutual
def uptoBulk {H : Type} : DataW H → Nat
  | .lit (.string bytes) => bytes.length + 1
  | .lit _ => 1
  | .nil => 1
  | .ptr d => uptoBulk d + 1
  | .slice elems spare => uptoBulkAll elems + uptoBulkAll spare + 1
  | .agg parts => uptoBulkAll parts + 1
  | .iface _ d => uptoBulk d + 1
  | .map entries => uptoBulkEntries entries + 1
  | .held _ => 1
def uptoBulkAll {H : Type} : List (DataW H) → Nat
  | [] => 0
  | d :: r => uptoBulk d + uptoBulkAll r
def uptoBulkEntries {H : Type} : List (Lit × DataW H) → Nat
  | [] => 0
  | x :: r => uptoBulkEntry x + uptoBulkEntries r
def uptoBulkEntry {H : Type} : Lit × DataW H → Nat
  | (.string bytes, d) => bytes.length + uptoBulk d + 1
  | (_, d) => uptoBulk d + 1
 end
def uptoSmall : (H : Type) → List (DataW H) → Bool := fun _ ds => decide (uptoBulkAll ds ≤ 1048576)
def OpenSpec.upto (s : _root_.Go.ChangeSpec) : _root_.Go.OpenSpec := { _root_.Go.OpenSpec.ofChange s with cond := some uptoSmall }

/-- 'querylablaw01.ValueDuals', WHERE WHAT IT READS IS OF BULK AT MOST 1048576: true; the input reads as it did. -/
def valueDualsUptoRow : OpenClaim := { program := "ytnbbnkmaoaogeaadoor", sum := "e490323aef6b8e45ec2147cf526991a913486d4e08aa3c876980053a9d2527f4", func := "querylab/querylablaw01.ValueDuals", spec := "valueDuals", named := ["querylab/value.null"], apart := false, laid := [("querylab/value.null", laid_querylab_value_null)], narrowed := true }
def ValueDualsUptoSaid : Prop := valueDualsUptoRow.holds Tryd.pinned (OpenSpec.upto valueDualsSpec)

/-- 'querylablaw01.ValueMonotone', WHERE WHAT IT READS IS OF BULK AT MOST 1048576: true; the input reads as it did. -/
def valueMonotoneUptoRow : OpenClaim := { program := "ytnbbnkmaoaogeaadoor", sum := "e490323aef6b8e45ec2147cf526991a913486d4e08aa3c876980053a9d2527f4", func := "querylab/querylablaw01.ValueMonotone", spec := "valueMonotone", named := ["querylab/value.null"], apart := false, laid := [("querylab/value.null", laid_querylab_value_null)], narrowed := true }
def ValueMonotoneUptoSaid : Prop := valueMonotoneUptoRow.holds Tryd.pinned (OpenSpec.upto valueMonotoneSpec)

/-- 'querylablaw01.ValueArith', WHERE WHAT IT READS IS OF BULK AT MOST 1048576: true; the input reads as it did. -/
def valueArithUptoRow : OpenClaim := { program := "ytnbbnkmaoaogeaadoor", sum := "e490323aef6b8e45ec2147cf526991a913486d4e08aa3c876980053a9d2527f4", func := "querylab/querylablaw01.ValueArith", spec := "valueArith", unfollowed := true, recurses := true, named := ["querylab/value.null"], apart := false, laid := [("querylab/value.null", laid_querylab_value_null)], narrowed := true }
def ValueArithUptoSaid : Prop := valueArithUptoRow.holds Tryd.pinned (OpenSpec.upto valueArithSpec)

/-- 'querylablaw01.ValueDivides', WHERE WHAT IT READS IS OF BULK AT MOST 1048576: true; the input reads as it did. -/
def valueDividesUptoRow : OpenClaim := { program := "ytnbbnkmaoaogeaadoor", sum := "e490323aef6b8e45ec2147cf526991a913486d4e08aa3c876980053a9d2527f4", func := "querylab/querylablaw01.ValueDivides", spec := "valueDivides", unfollowed := true, recurses := true, named := ["querylab/value.null"], apart := false, laid := [("querylab/value.null", laid_querylab_value_null)], narrowed := true }
def ValueDividesUptoSaid : Prop := valueDividesUptoRow.holds Tryd.pinned (OpenSpec.upto valueDividesSpec)

/-- 'querylablaw01.ValueLogic', WHERE WHAT IT READS IS OF BULK AT MOST 1048576: true; the input reads as it did. -/
def valueLogicUptoRow : OpenClaim := { program := "ytnbbnkmaoaogeaadoor", sum := "e490323aef6b8e45ec2147cf526991a913486d4e08aa3c876980053a9d2527f4", func := "querylab/querylablaw01.ValueLogic", spec := "valueLogic", named := ["querylab/value.null"], apart := false, laid := [("querylab/value.null", laid_querylab_value_null)], narrowed := true }
def ValueLogicUptoSaid : Prop := valueLogicUptoRow.holds Tryd.pinned (OpenSpec.upto valueLogicSpec)

/-- 'querylablaw02.ExpressionDecides', WHERE WHAT IT READS IS OF BULK AT MOST 1048576: true; the input reads as it did. -/
def expressionDecidesUptoRow : OpenClaim := { program := "ytnbbnkmaoaogeaadoor", sum := "e490323aef6b8e45ec2147cf526991a913486d4e08aa3c876980053a9d2527f4", func := "querylab/querylablaw02.ExpressionDecides", spec := "expressionDecides", unfollowed := true, recurses := true, named := ["querylab/expression.operations", "querylab/value.null"], apart := false, laid := [("querylab/value.null", laid_querylab_value_null), ("querylab/expression.operations", laid_querylab_expression_operations)], narrowed := true }
def ExpressionDecidesUptoSaid : Prop := expressionDecidesUptoRow.holds Tryd.pinned (OpenSpec.upto expressionDecidesSpec)

/-- 'querylablaw02.ExpressionShifts', WHERE WHAT IT READS IS OF BULK AT MOST 1048576: true; the input reads as it did. -/
def expressionShiftsUptoRow : OpenClaim := { program := "ytnbbnkmaoaogeaadoor", sum := "e490323aef6b8e45ec2147cf526991a913486d4e08aa3c876980053a9d2527f4", func := "querylab/querylablaw02.ExpressionShifts", spec := "expressionShifts", unfollowed := true, recurses := true, named := ["querylab/expression.operations", "querylab/value.null"], apart := false, laid := [("querylab/value.null", laid_querylab_value_null), ("querylab/expression.operations", laid_querylab_expression_operations)], narrowed := true }
def ExpressionShiftsUptoSaid : Prop := expressionShiftsUptoRow.holds Tryd.pinned (OpenSpec.upto expressionShiftsSpec)

/-- 'querylablaw02.ExpressionTyped', WHERE WHAT IT READS IS OF BULK AT MOST 1048576: true; the input reads as it did. -/
def expressionTypedUptoRow : OpenClaim := { program := "ytnbbnkmaoaogeaadoor", sum := "e490323aef6b8e45ec2147cf526991a913486d4e08aa3c876980053a9d2527f4", func := "querylab/querylablaw02.ExpressionTyped", spec := "expressionTyped", unfollowed := true, recurses := true, named := ["querylab/expression.operations", "querylab/value.null"], apart := false, laid := [("querylab/value.null", laid_querylab_value_null), ("querylab/expression.operations", laid_querylab_expression_operations)], narrowed := true }
def ExpressionTypedUptoSaid : Prop := expressionTypedUptoRow.holds Tryd.pinned (OpenSpec.upto expressionTypedSpec)

/-- 'querylablaw01.ValueTexts', WHERE WHAT IT READS IS OF BULK AT MOST 1048576: true; the input reads as it did. -/
def valueTextsUptoRow : OpenClaim := { program := "ytnbbnkmaoaogeaadoor", sum := "e490323aef6b8e45ec2147cf526991a913486d4e08aa3c876980053a9d2527f4", func := "querylab/querylablaw01.ValueTexts", spec := "valueTexts", unfollowed := true, recurses := true, named := ["querylab/value.null", "strconv.ErrSyntax", "strconv.ErrRange", "internal/strconv.uint64pow10", "math/bits.deBruijn32tab", "math/bits.deBruijn64tab"], apart := false, laid := [("math/bits.deBruijn32tab", laid_math_bits_deBruijn32tab), ("math/bits.deBruijn64tab", laid_math_bits_deBruijn64tab), ("internal/strconv.uint64pow10", laid_internal_strconv_uint64pow10), ("strconv.ErrRange", laid_strconv_ErrRange), ("strconv.ErrSyntax", laid_strconv_ErrSyntax), ("querylab/value.null", laid_querylab_value_null)], narrowed := true }
def ValueTextsUptoSaid : Prop := valueTextsUptoRow.holds Tryd.pinned (OpenSpec.upto valueTextsSpec)

/-- 'querylablaw02.ExpressionTexts', WHERE WHAT IT READS IS OF BULK AT MOST 1048576: true; the input reads as it did. -/
def expressionTextsUptoRow : OpenClaim := { program := "ytnbbnkmaoaogeaadoor", sum := "e490323aef6b8e45ec2147cf526991a913486d4e08aa3c876980053a9d2527f4", func := "querylab/querylablaw02.ExpressionTexts", spec := "expressionTexts", inPlace := ["internal/abi.NoEscape", "internal/bytealg.MakeNoZero"], unfollowed := true, recurses := true, named := ["querylab/expression.operations", "querylab/value.null", "internal/strconv.uint64pow10", "math/bits.deBruijn32tab", "math/bits.deBruijn64tab"], loops := true, apart := false, laid := [("math/bits.deBruijn32tab", laid_math_bits_deBruijn32tab), ("math/bits.deBruijn64tab", laid_math_bits_deBruijn64tab), ("internal/strconv.uint64pow10", laid_internal_strconv_uint64pow10), ("querylab/value.null", laid_querylab_value_null), ("querylab/expression.operations", laid_querylab_expression_operations)], narrowed := true }
def ExpressionTextsUptoSaid : Prop := expressionTextsUptoRow.holds Tryd.pinned (OpenSpec.upto expressionTextsSpec)

end Rows
end Go.Proofs.YtnbbnkmaoaogeaaDoor
