/-
  NARROWER THAN 'FOR EVERY INPUT', by the rows' own cells (each row's printed sentence says how): BindUnbindsRaw: loops, laid · BindStatements: laid · BindRaw: loops, laid · DemandMeans: laid.
  DERIVED. THE GIVEN ROWS OF THIS SEAT. 4 by the template 'for every input the law returns true; each argument reads behind the call as it read before'; 0 by the template 'total and deterministic' (their statements: YthbnleoonldffaaGreatDoorTotals.lean).
  GIVEN WITH THE SEED: the statements are not yours to turn. If you find one false, say at which input.
  Laid BY PROGRAM, IN A SANDBOX (cutbox-rows.mjs): the forced cells as the released guide's own fill.sh prints them over the translation 2f5f7d7d9412e01b… (all of the seat's roots in one cut). By AI agents, Wed Nov 11 2026. No macro, syntax, notation, axiom, sorry.
-/
import Derived.Test.YthbnleoonldffaaGreatDoorChecked
import GoSem.Claim
import GoSem.ClaimJoined
import GoSem.ClaimMapViews
import Derived.JoinedTies
import Derived.KernelRfl
namespace Go.Proofs.YthbnleoonldffaaGreatDoor
/- THE CELL 'sum', in the pinned program and in every row, IS THE sha256 OF THE DUMP (.gsa) THAT YthbnleoonldffaaGreatDoorProg.lean LOADS. Nothing in Lean hashes anything: it is a label: what it is worth is what the hold of that sum in a sandbox is worth. -/
noncomputable def Tryz.pinned : Pinned := { name := "ythbnleoonldffaagreatdoor", sum := "2f5f7d7d9412e01befe460004c94ecc0c2a2e70f9cfa1de88f9031cdda72f2b6", checked := Tryz.checked }
namespace Rows
def none {H : Type} : Left H := { results := [], args := [] }

/- WHAT THE LISTED PACKAGE-LEVEL VARIABLES READ AS WHEN THE CALL BEGINS. Each datum BY PROGRAM (the guide's laid-datum.mjs) off the statement by which the dump's own 'gosem.cut.vars' lays the variable. In a bare row this is a premise. The card (YthbnleoonldffaaGreatDoorCards.lean) ties it to the program's text. -/
def laid_math_bits_deBruijn32tab {H : Type} : DataW H := .agg [.lit (.int .u8 0), .lit (.int .u8 1), .lit (.int .u8 28), .lit (.int .u8 2), .lit (.int .u8 29), .lit (.int .u8 14), .lit (.int .u8 24), .lit (.int .u8 3), .lit (.int .u8 30), .lit (.int .u8 22), .lit (.int .u8 20), .lit (.int .u8 15), .lit (.int .u8 25), .lit (.int .u8 17), .lit (.int .u8 4), .lit (.int .u8 8), .lit (.int .u8 31), .lit (.int .u8 27), .lit (.int .u8 13), .lit (.int .u8 23), .lit (.int .u8 21), .lit (.int .u8 19), .lit (.int .u8 16), .lit (.int .u8 7), .lit (.int .u8 26), .lit (.int .u8 12), .lit (.int .u8 18), .lit (.int .u8 6), .lit (.int .u8 11), .lit (.int .u8 5), .lit (.int .u8 10), .lit (.int .u8 9)]
def laid_math_bits_deBruijn64tab {H : Type} : DataW H := .agg [.lit (.int .u8 0), .lit (.int .u8 1), .lit (.int .u8 56), .lit (.int .u8 2), .lit (.int .u8 57), .lit (.int .u8 49), .lit (.int .u8 28), .lit (.int .u8 3), .lit (.int .u8 61), .lit (.int .u8 58), .lit (.int .u8 42), .lit (.int .u8 50), .lit (.int .u8 38), .lit (.int .u8 29), .lit (.int .u8 17), .lit (.int .u8 4), .lit (.int .u8 62), .lit (.int .u8 47), .lit (.int .u8 59), .lit (.int .u8 36), .lit (.int .u8 45), .lit (.int .u8 43), .lit (.int .u8 51), .lit (.int .u8 22), .lit (.int .u8 53), .lit (.int .u8 39), .lit (.int .u8 33), .lit (.int .u8 30), .lit (.int .u8 24), .lit (.int .u8 18), .lit (.int .u8 12), .lit (.int .u8 5), .lit (.int .u8 63), .lit (.int .u8 55), .lit (.int .u8 48), .lit (.int .u8 27), .lit (.int .u8 60), .lit (.int .u8 41), .lit (.int .u8 37), .lit (.int .u8 16), .lit (.int .u8 46), .lit (.int .u8 35), .lit (.int .u8 44), .lit (.int .u8 21), .lit (.int .u8 52), .lit (.int .u8 32), .lit (.int .u8 23), .lit (.int .u8 11), .lit (.int .u8 54), .lit (.int .u8 26), .lit (.int .u8 40), .lit (.int .u8 15), .lit (.int .u8 34), .lit (.int .u8 20), .lit (.int .u8 31), .lit (.int .u8 10), .lit (.int .u8 25), .lit (.int .u8 14), .lit (.int .u8 19), .lit (.int .u8 9), .lit (.int .u8 13), .lit (.int .u8 8), .lit (.int .u8 7), .lit (.int .u8 6)]
def laid_internal_strconv_uint64pow10 {H : Type} : DataW H := .agg [.lit (.int .u64 1), .lit (.int .u64 10), .lit (.int .u64 100), .lit (.int .u64 1000), .lit (.int .u64 10000), .lit (.int .u64 100000), .lit (.int .u64 1000000), .lit (.int .u64 10000000), .lit (.int .u64 100000000), .lit (.int .u64 1000000000), .lit (.int .u64 10000000000), .lit (.int .u64 100000000000), .lit (.int .u64 1000000000000), .lit (.int .u64 10000000000000), .lit (.int .u64 100000000000000), .lit (.int .u64 1000000000000000), .lit (.int .u64 10000000000000000), .lit (.int .u64 100000000000000000), .lit (.int .u64 1000000000000000000), .lit (.int .u64 10000000000000000000)]
def laid_querylab_expression_operations {H : Type} : DataW H := .agg [.agg [.lit (.string []), .lit (.int .i64 0), .lit (.int .i64 0), .lit (.int .i64 0)], .agg [.lit (.string [110, 117, 108, 108]), .lit (.int .i64 0), .lit (.int .i64 0), .lit (.int .i64 0)], .agg [.lit (.string [105, 110, 116]), .lit (.int .i64 0), .lit (.int .i64 0), .lit (.int .i64 1)], .agg [.lit (.string [98, 111, 111, 108]), .lit (.int .i64 0), .lit (.int .i64 0), .lit (.int .i64 2)], .agg [.lit (.string [116, 101, 120, 116]), .lit (.int .i64 0), .lit (.int .i64 0), .lit (.int .i64 3)], .agg [.lit (.string [99, 111, 108, 117, 109, 110]), .lit (.int .i64 0), .lit (.int .i64 0), .lit (.int .i64 0)], .agg [.lit (.string [97, 100, 100]), .lit (.int .i64 2), .lit (.int .i64 1), .lit (.int .i64 1)], .agg [.lit (.string [115, 117, 98]), .lit (.int .i64 2), .lit (.int .i64 1), .lit (.int .i64 1)], .agg [.lit (.string [109, 117, 108]), .lit (.int .i64 2), .lit (.int .i64 1), .lit (.int .i64 1)], .agg [.lit (.string [100, 105, 118]), .lit (.int .i64 2), .lit (.int .i64 1), .lit (.int .i64 1)], .agg [.lit (.string [109, 111, 100]), .lit (.int .i64 2), .lit (.int .i64 1), .lit (.int .i64 1)], .agg [.lit (.string [110, 101, 103]), .lit (.int .i64 1), .lit (.int .i64 1), .lit (.int .i64 1)], .agg [.lit (.string [99, 111, 110, 99, 97, 116]), .lit (.int .i64 2), .lit (.int .i64 2), .lit (.int .i64 3)], .agg [.lit (.string [108, 101, 110, 103, 116, 104]), .lit (.int .i64 1), .lit (.int .i64 2), .lit (.int .i64 1)], .agg [.lit (.string [101, 113]), .lit (.int .i64 2), .lit (.int .i64 4), .lit (.int .i64 2)], .agg [.lit (.string [110, 101]), .lit (.int .i64 2), .lit (.int .i64 4), .lit (.int .i64 2)], .agg [.lit (.string [108, 116]), .lit (.int .i64 2), .lit (.int .i64 4), .lit (.int .i64 2)], .agg [.lit (.string [108, 101]), .lit (.int .i64 2), .lit (.int .i64 4), .lit (.int .i64 2)], .agg [.lit (.string [103, 116]), .lit (.int .i64 2), .lit (.int .i64 4), .lit (.int .i64 2)], .agg [.lit (.string [103, 101]), .lit (.int .i64 2), .lit (.int .i64 4), .lit (.int .i64 2)], .agg [.lit (.string [115, 97, 109, 101]), .lit (.int .i64 2), .lit (.int .i64 4), .lit (.int .i64 2)], .agg [.lit (.string [105, 115, 110, 117, 108, 108]), .lit (.int .i64 1), .lit (.int .i64 5), .lit (.int .i64 2)], .agg [.lit (.string [97, 110, 100]), .lit (.int .i64 2), .lit (.int .i64 3), .lit (.int .i64 2)], .agg [.lit (.string [111, 114]), .lit (.int .i64 2), .lit (.int .i64 3), .lit (.int .i64 2)], .agg [.lit (.string [110, 111, 116]), .lit (.int .i64 1), .lit (.int .i64 3), .lit (.int .i64 2)], .agg [.lit (.string [105, 115, 116, 114, 117, 101]), .lit (.int .i64 1), .lit (.int .i64 3), .lit (.int .i64 2)], .agg [.lit (.string [99, 97, 115, 101]), .lit (.int .i64 3), .lit (.int .i64 6), .lit (.int .i64 0)], .agg [.lit (.string [99, 111, 97, 108, 101, 115, 99, 101]), .lit (.int .i64 2), .lit (.int .i64 4), .lit (.int .i64 0)], .agg [.lit (.string [105, 110]), .lit (.int .i64 2), .lit (.int .i64 4), .lit (.int .i64 2)]]
def laid_querylab_algebra_forms {H : Type} : DataW H := .agg [.agg [.lit (.string []), .lit (.int .i64 0), .lit (.string [])], .agg [.lit (.string [115, 99, 97, 110]), .lit (.int .i64 0), .lit (.string [116, 97, 98, 108, 101])], .agg [.lit (.string [118, 97, 108, 117, 101, 115]), .lit (.int .i64 0), .lit (.string [116, 121, 112, 101, 115, 32, 114, 111, 119, 115])], .agg [.lit (.string [115, 101, 108, 101, 99, 116]), .lit (.int .i64 1), .lit (.string [99, 111, 110, 100])], .agg [.lit (.string [112, 114, 111, 106, 101, 99, 116]), .lit (.int .i64 1), .lit (.string [101, 120, 112, 114, 115])], .agg [.lit (.string [106, 111, 105, 110]), .lit (.int .i64 2), .lit (.string [107, 105, 110, 100, 32, 99, 111, 110, 100])], .agg [.lit (.string [117, 110, 105, 111, 110]), .lit (.int .i64 2), .lit (.string [97, 108, 108])], .agg [.lit (.string [101, 120, 99, 101, 112, 116]), .lit (.int .i64 2), .lit (.string [97, 108, 108])], .agg [.lit (.string [105, 110, 116, 101, 114, 115, 101, 99, 116]), .lit (.int .i64 2), .lit (.string [97, 108, 108])], .agg [.lit (.string [100, 105, 115, 116, 105, 110, 99, 116]), .lit (.int .i64 1), .lit (.string [])], .agg [.lit (.string [103, 114, 111, 117, 112]), .lit (.int .i64 1), .lit (.string [101, 120, 112, 114, 115, 32, 97, 103, 103, 115])]]
def laid_querylab_sql_operators {H : Type} : DataW H := .agg [.agg [.lit (.string []), .lit (.int .i64 0), .lit (.int .i64 0), .lit (.int .i64 0)], .agg [.lit (.string []), .lit (.int .i64 0), .lit (.int .i64 0), .lit (.int .i64 0)], .agg [.lit (.string []), .lit (.int .i64 0), .lit (.int .i64 0), .lit (.int .i64 0)], .agg [.lit (.string []), .lit (.int .i64 0), .lit (.int .i64 0), .lit (.int .i64 0)], .agg [.lit (.string []), .lit (.int .i64 0), .lit (.int .i64 0), .lit (.int .i64 0)], .agg [.lit (.string []), .lit (.int .i64 0), .lit (.int .i64 0), .lit (.int .i64 0)], .agg [.lit (.string [43]), .lit (.int .i64 4), .lit (.int .i64 4), .lit (.int .i64 5)], .agg [.lit (.string [45]), .lit (.int .i64 4), .lit (.int .i64 4), .lit (.int .i64 5)], .agg [.lit (.string [42]), .lit (.int .i64 5), .lit (.int .i64 5), .lit (.int .i64 6)], .agg [.lit (.string [47]), .lit (.int .i64 5), .lit (.int .i64 5), .lit (.int .i64 6)], .agg [.lit (.string [109, 111, 100]), .lit (.int .i64 5), .lit (.int .i64 5), .lit (.int .i64 6)], .agg [.lit (.string []), .lit (.int .i64 0), .lit (.int .i64 0), .lit (.int .i64 0)], .agg [.lit (.string [124, 124]), .lit (.int .i64 4), .lit (.int .i64 4), .lit (.int .i64 5)], .agg [.lit (.string []), .lit (.int .i64 0), .lit (.int .i64 0), .lit (.int .i64 0)], .agg [.lit (.string [61]), .lit (.int .i64 3), .lit (.int .i64 4), .lit (.int .i64 4)], .agg [.lit (.string [60, 62]), .lit (.int .i64 3), .lit (.int .i64 4), .lit (.int .i64 4)], .agg [.lit (.string [60]), .lit (.int .i64 3), .lit (.int .i64 4), .lit (.int .i64 4)], .agg [.lit (.string [60, 61]), .lit (.int .i64 3), .lit (.int .i64 4), .lit (.int .i64 4)], .agg [.lit (.string [62]), .lit (.int .i64 3), .lit (.int .i64 4), .lit (.int .i64 4)], .agg [.lit (.string [62, 61]), .lit (.int .i64 3), .lit (.int .i64 4), .lit (.int .i64 4)], .agg [.lit (.string [115, 97, 109, 101]), .lit (.int .i64 3), .lit (.int .i64 4), .lit (.int .i64 4)], .agg [.lit (.string []), .lit (.int .i64 0), .lit (.int .i64 0), .lit (.int .i64 0)], .agg [.lit (.string [97, 110, 100]), .lit (.int .i64 1), .lit (.int .i64 1), .lit (.int .i64 2)], .agg [.lit (.string [111, 114]), .lit (.int .i64 0), .lit (.int .i64 0), .lit (.int .i64 1)]]
def laid_querylab_value_null {H : Type} : DataW H := .agg [.lit (.int .i64 0), .lit (.int .i64 0), .lit (.string [])]

/-- 'querylablaw06.BindUnbindsRaw': WHATEVER THE INPUT: true; the input reads as it did. -/
def bindUnbindsRawSpec : ChangeSpec := { name := "bindUnbindsRaw", fn := fun _ => fun
  | [d1, d2] => { results := [.lit (.bool true)], args := [d1, d2] }
  | _ => none }
def bindUnbindsRawRow : OpenClaim := { program := "ythbnleoonldffaagreatdoor", sum := "2f5f7d7d9412e01befe460004c94ecc0c2a2e70f9cfa1de88f9031cdda72f2b6", func := "querylab/querylablaw06.BindUnbindsRaw", spec := "bindUnbindsRaw", inPlace := ["internal/bytealg.IndexByteString", "internal/bytealg.IndexString"], unfollowed := true, recurses := true, named := ["internal/bytealg.MaxLen", "querylab/expression.operations", "querylab/algebra.forms", "internal/strconv.uint64pow10", "math/bits.deBruijn32tab", "math/bits.deBruijn64tab"], loops := true, apart := false, laid := [("math/bits.deBruijn32tab", laid_math_bits_deBruijn32tab), ("math/bits.deBruijn64tab", laid_math_bits_deBruijn64tab), ("internal/strconv.uint64pow10", laid_internal_strconv_uint64pow10), ("querylab/expression.operations", laid_querylab_expression_operations), ("querylab/algebra.forms", laid_querylab_algebra_forms)] }
def BindUnbindsRawSaid : Prop := bindUnbindsRawRow.holds Tryz.pinned (OpenSpec.ofChange bindUnbindsRawSpec)

/-- ITS FALSE NEIGHBOUR: 'it returns false'. Refute it at one input. -/
def bindUnbindsRawWrong : ChangeSpec := { name := "bindUnbindsRaw", fn := fun _ => fun
  | [d1, d2] => { results := [.lit (.bool false)], args := [d1, d2] }
  | _ => none }
def BindUnbindsRawWrongFalsely : Prop := bindUnbindsRawRow.holds Tryz.pinned (OpenSpec.ofChange bindUnbindsRawWrong)

/-- 'querylablaw06.BindStatements': WHATEVER THE INPUT: true; the input reads as it did. -/
def bindStatementsSpec : ChangeSpec := { name := "bindStatements", fn := fun _ => fun
  | [d] => { results := [.lit (.bool true)], args := [d] }
  | _ => none }
def bindStatementsRow : OpenClaim := { program := "ythbnleoonldffaagreatdoor", sum := "2f5f7d7d9412e01befe460004c94ecc0c2a2e70f9cfa1de88f9031cdda72f2b6", func := "querylab/querylablaw06.BindStatements", spec := "bindStatements", inPlace := ["internal/bytealg.IndexByteString", "internal/bytealg.IndexString"], unfollowed := true, recurses := true, named := ["internal/bytealg.MaxLen", "querylab/expression.operations", "querylab/sql.operators", "querylab/algebra.forms"], apart := false, laid := [("querylab/expression.operations", laid_querylab_expression_operations), ("querylab/algebra.forms", laid_querylab_algebra_forms), ("querylab/sql.operators", laid_querylab_sql_operators)] }
def BindStatementsSaid : Prop := bindStatementsRow.holds Tryz.pinned (OpenSpec.ofChange bindStatementsSpec)

/-- ITS FALSE NEIGHBOUR: 'it returns false'. Refute it at one input. -/
def bindStatementsWrong : ChangeSpec := { name := "bindStatements", fn := fun _ => fun
  | [d] => { results := [.lit (.bool false)], args := [d] }
  | _ => none }
def BindStatementsWrongFalsely : Prop := bindStatementsRow.holds Tryz.pinned (OpenSpec.ofChange bindStatementsWrong)

/-- 'querylablaw06.BindRaw': WHATEVER THE INPUT: true; the input reads as it did. -/
def bindRawSpec : ChangeSpec := { name := "bindRaw", fn := fun _ => fun
  | [d1, d2, d3] => { results := [.lit (.bool true)], args := [d1, d2, d3] }
  | _ => none }
def bindRawRow : OpenClaim := { program := "ythbnleoonldffaagreatdoor", sum := "2f5f7d7d9412e01befe460004c94ecc0c2a2e70f9cfa1de88f9031cdda72f2b6", func := "querylab/querylablaw06.BindRaw", spec := "bindRaw", inPlace := ["internal/bytealg.IndexByteString", "internal/bytealg.IndexString"], unfollowed := true, recurses := true, named := ["internal/bytealg.MaxLen", "querylab/expression.operations", "querylab/sql.operators", "querylab/algebra.forms"], loops := true, apart := false, laid := [("querylab/expression.operations", laid_querylab_expression_operations), ("querylab/algebra.forms", laid_querylab_algebra_forms), ("querylab/sql.operators", laid_querylab_sql_operators)] }
def BindRawSaid : Prop := bindRawRow.holds Tryz.pinned (OpenSpec.ofChange bindRawSpec)

/-- ITS FALSE NEIGHBOUR: 'it returns false'. Refute it at one input. -/
def bindRawWrong : ChangeSpec := { name := "bindRaw", fn := fun _ => fun
  | [d1, d2, d3] => { results := [.lit (.bool false)], args := [d1, d2, d3] }
  | _ => none }
def BindRawWrongFalsely : Prop := bindRawRow.holds Tryz.pinned (OpenSpec.ofChange bindRawWrong)

/-- 'querylablaw14.DemandMeans': WHATEVER THE INPUT: true; the input reads as it did. -/
def demandMeansSpec : ChangeSpec := { name := "demandMeans", fn := fun _ => fun
  | [d] => { results := [.lit (.bool true)], args := [d] }
  | _ => none }
def demandMeansRow : OpenClaim := { program := "ythbnleoonldffaagreatdoor", sum := "2f5f7d7d9412e01befe460004c94ecc0c2a2e70f9cfa1de88f9031cdda72f2b6", func := "querylab/querylablaw14.DemandMeans", spec := "demandMeans", inPlace := ["internal/bytealg.IndexByteString", "internal/bytealg.IndexString"], unfollowed := true, recurses := true, named := ["internal/bytealg.MaxLen", "querylab/expression.operations", "querylab/value.null"], apart := false, laid := [("querylab/value.null", laid_querylab_value_null), ("querylab/expression.operations", laid_querylab_expression_operations)] }
def DemandMeansSaid : Prop := demandMeansRow.holds Tryz.pinned (OpenSpec.ofChange demandMeansSpec)

/-- ITS FALSE NEIGHBOUR: 'it returns false'. Refute it at one input. -/
def demandMeansWrong : ChangeSpec := { name := "demandMeans", fn := fun _ => fun
  | [d] => { results := [.lit (.bool false)], args := [d] }
  | _ => none }
def DemandMeansWrongFalsely : Prop := demandMeansRow.holds Tryz.pinned (OpenSpec.ofChange demandMeansWrong)

/- THE SECOND FORM. 'bulk': how many values and letters a reading holds, each counted each time it is reached (what is shared counts as often as it is met; a slice's spare places count too). A statement '..UptoSaid' is the law's where the arguments, and the package variables that the reading takes, are together of bulk at most 1048576: NARROWER than '..Said'. Prove '..Said' where nothing that the law and all that it calls make is longer than what came in: it says more and counts as full. Else prove '..UptoSaid'. A law counts once. -/
mutual
def uptoBulk {H : Type} : DataW H → Nat
  | .lit (.string bytes) => bytes.length + 1
  | .lit _ => 1
  | .nil => 1
  | .ptr d => uptoBulk d + 1
  | .slice elems spare => uptoBulkAll elems + uptoBulkAll spare + 1
  | .agg parts => uptoBulkAll parts + 1
  | .iface _ d => uptoBulk d + 1
  | .map entries => uptoBulkEntries entries + 1
  | .held _ => 1
def uptoBulkAll {H : Type} : List (DataW H) → Nat
  | [] => 0
  | d :: r => uptoBulk d + uptoBulkAll r
def uptoBulkEntries {H : Type} : List (Lit × DataW H) → Nat
  | [] => 0
  | x :: r => uptoBulkEntry x + uptoBulkEntries r
def uptoBulkEntry {H : Type} : Lit × DataW H → Nat
  | (.string bytes, d) => bytes.length + uptoBulk d + 1
  | (_, d) => uptoBulk d + 1
 end
def uptoSmall : (H : Type) → List (DataW H) → Bool := fun _ ds => decide (uptoBulkAll ds ≤ 1048576)
def OpenSpec.upto (s : _root_.Go.ChangeSpec) : _root_.Go.OpenSpec := { _root_.Go.OpenSpec.ofChange s with cond := some uptoSmall }

/-- 'querylablaw06.BindUnbindsRaw', WHERE WHAT IT READS IS OF BULK AT MOST 1048576: true; the input reads as it did. -/
def bindUnbindsRawUptoRow : OpenClaim := { program := "ythbnleoonldffaagreatdoor", sum := "2f5f7d7d9412e01befe460004c94ecc0c2a2e70f9cfa1de88f9031cdda72f2b6", func := "querylab/querylablaw06.BindUnbindsRaw", spec := "bindUnbindsRaw", inPlace := ["internal/bytealg.IndexByteString", "internal/bytealg.IndexString"], unfollowed := true, recurses := true, named := ["internal/bytealg.MaxLen", "querylab/expression.operations", "querylab/algebra.forms", "internal/strconv.uint64pow10", "math/bits.deBruijn32tab", "math/bits.deBruijn64tab"], loops := true, apart := false, laid := [("math/bits.deBruijn32tab", laid_math_bits_deBruijn32tab), ("math/bits.deBruijn64tab", laid_math_bits_deBruijn64tab), ("internal/strconv.uint64pow10", laid_internal_strconv_uint64pow10), ("querylab/expression.operations", laid_querylab_expression_operations), ("querylab/algebra.forms", laid_querylab_algebra_forms)], narrowed := true }
def BindUnbindsRawUptoSaid : Prop := bindUnbindsRawUptoRow.holds Tryz.pinned (OpenSpec.upto bindUnbindsRawSpec)

/-- 'querylablaw06.BindStatements', WHERE WHAT IT READS IS OF BULK AT MOST 1048576: true; the input reads as it did. -/
def bindStatementsUptoRow : OpenClaim := { program := "ythbnleoonldffaagreatdoor", sum := "2f5f7d7d9412e01befe460004c94ecc0c2a2e70f9cfa1de88f9031cdda72f2b6", func := "querylab/querylablaw06.BindStatements", spec := "bindStatements", inPlace := ["internal/bytealg.IndexByteString", "internal/bytealg.IndexString"], unfollowed := true, recurses := true, named := ["internal/bytealg.MaxLen", "querylab/expression.operations", "querylab/sql.operators", "querylab/algebra.forms"], apart := false, laid := [("querylab/expression.operations", laid_querylab_expression_operations), ("querylab/algebra.forms", laid_querylab_algebra_forms), ("querylab/sql.operators", laid_querylab_sql_operators)], narrowed := true }
def BindStatementsUptoSaid : Prop := bindStatementsUptoRow.holds Tryz.pinned (OpenSpec.upto bindStatementsSpec)

/-- 'querylablaw06.BindRaw', WHERE WHAT IT READS IS OF BULK AT MOST 1048576: true; the input reads as it did. -/
def bindRawUptoRow : OpenClaim := { program := "ythbnleoonldffaagreatdoor", sum := "2f5f7d7d9412e01befe460004c94ecc0c2a2e70f9cfa1de88f9031cdda72f2b6", func := "querylab/querylablaw06.BindRaw", spec := "bindRaw", inPlace := ["internal/bytealg.IndexByteString", "internal/bytealg.IndexString"], unfollowed := true, recurses := true, named := ["internal/bytealg.MaxLen", "querylab/expression.operations", "querylab/sql.operators", "querylab/algebra.forms"], loops := true, apart := false, laid := [("querylab/expression.operations", laid_querylab_expression_operations), ("querylab/algebra.forms", laid_querylab_algebra_forms), ("querylab/sql.operators", laid_querylab_sql_operators)], narrowed := true }
def BindRawUptoSaid : Prop := bindRawUptoRow.holds Tryz.pinned (OpenSpec.upto bindRawSpec)

/-- 'querylablaw14.DemandMeans', WHERE WHAT IT READS IS OF BULK AT MOST 1048576: true; the input reads as it did. -/
def demandMeansUptoRow : OpenClaim := { program := "ythbnleoonldffaagreatdoor", sum := "2f5f7d7d9412e01befe460004c94ecc0c2a2e70f9cfa1de88f9031cdda72f2b6", func := "querylab/querylablaw14.DemandMeans", spec := "demandMeans", inPlace := ["internal/bytealg.IndexByteString", "internal/bytealg.IndexString"], unfollowed := true, recurses := true, named := ["internal/bytealg.MaxLen", "querylab/expression.operations", "querylab/value.null"], apart := false, laid := [("querylab/value.null", laid_querylab_value_null), ("querylab/expression.operations", laid_querylab_expression_operations)], narrowed := true }
def DemandMeansUptoSaid : Prop := demandMeansUptoRow.holds Tryz.pinned (OpenSpec.upto demandMeansSpec)

end Rows
end Go.Proofs.YthbnleoonldffaaGreatDoor
