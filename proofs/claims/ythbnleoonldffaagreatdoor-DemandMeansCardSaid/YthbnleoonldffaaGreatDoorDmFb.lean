/- What is so of the program and the row by their text alone, each fact by itself. Printed by genfac.py. -/
import Derived.SevenTiedAt
import Derived.KernelRfl
import Derived.Test.YthbnleoonldffaaGreatDoorRows
import Derived.Test.YthbnleoonldffaaGreatDoorChecked
import Derived.Test.YthbnleoonldffaaGreatDoorTie
import Derived.Test.YthbnleoonldffaaGreatDoorCards
set_option linter.all false
namespace Go.Proofs.YthbnleoonldffaaGreatDoor
open Go Go.Proofs.Tryz
set_option maxRecDepth 100000
theorem fac10:((Rows.demandMeansRow.inPlace==Tryz.prog.inPlace 6))=true:=by kernel_rfl
theorem fac11:((Rows.demandMeansRow.unfollowed==Tryz.prog.unfollowed 6))=true:=by kernel_rfl
theorem fac12:((Rows.demandMeansRow.recurses==Tryz.prog.recurses 6))=true:=by kernel_rfl
theorem fac13:((Rows.demandMeansRow.named==Tryz.prog.varsNamed 6))=true:=by kernel_rfl
end Go.Proofs.YthbnleoonldffaaGreatDoor
