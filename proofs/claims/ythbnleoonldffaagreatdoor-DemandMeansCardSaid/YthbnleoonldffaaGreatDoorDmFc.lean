/- What is so of the program and the row by their text alone, each fact by itself. Printed by genfac.py. -/
import Derived.SevenTiedAt
import Derived.KernelRfl
import Derived.Test.YthbnleoonldffaaGreatDoorRows
import Derived.Test.YthbnleoonldffaaGreatDoorChecked
import Derived.Test.YthbnleoonldffaaGreatDoorTie
import Derived.Test.YthbnleoonldffaaGreatDoorCards
set_option linter.all false
namespace Go.Proofs.YthbnleoonldffaaGreatDoor
open Go Go.Proofs.Tryz
set_option maxRecDepth 100000
theorem fac26:(Tryz.prog.mayEnter)=true:=by kernel_rfl
theorem fac27:((Rows.demandMeansRow.lifted==Tryz.prog.liftsFinal))=true:=by kernel_rfl
theorem fac28:((Tryz.prog.make==some Rows.demandMeansRow.make))=true:=by kernel_rfl
theorem fac29:((Rows.demandMeansRow.kinds==(if Rows.demandMeansRow.domain.isEmpty then [] else Tryz.f6.params.toList.map fun t=>match Tryz.prog.underlying t with | some (.int k)=>some k | _=>none)))=true:=by kernel_rfl
theorem fac30:((Rows.demandMeansRow.pinned==Rows.demandMeansRow.pinnedBy))=true:=by kernel_rfl
theorem fac31:((Rows.demandMeansRow.veiled==(Tryz.f6.params.toList++Rows.demandMeansSpec.plain.varTypes Tryz.prog++Tryz.f6.resultTypes.toList).any (Tryz.prog.veiledRec ·)))=true:=by kernel_rfl
theorem fac32:(Rows.demandMeansRow.veiledFits Tryz.prog Tryz.f6.params.toList (Tryz.f6.params.toList++Rows.demandMeansSpec.plain.varTypes Tryz.prog++Tryz.f6.resultTypes.toList))=true:=by kernel_rfl
theorem facN:Tryz.prog.funcNamed Rows.demandMeansRow.func=some 6:=by kernel_rfl
theorem facI:Tryz.f6.isInstance Tryz.prog Rows.demandMeansRow.origin Rows.demandMeansRow.targs:=of_decide_eq_true (by kernel_rfl)
theorem facW:Rows.demandMeansRow.wfByText (OpenSpec.ofChange Rows.demandMeansSpec)=true:=by kernel_rfl
theorem facL:false=Tryz.prog.looks []:=by kernel_rfl
theorem facG:false=Rows.demandMeansRow.goesBy Tryz.prog:=by kernel_rfl
theorem facM : Tryz.prog.mainIs = some (true, ("2c177d65cb39a6dd501e17cf11c2c4e20dc931f129f3043f3f1a0a2dddfeb295" : String).toList) := by kernel_rfl
end Go.Proofs.YthbnleoonldffaaGreatDoor
