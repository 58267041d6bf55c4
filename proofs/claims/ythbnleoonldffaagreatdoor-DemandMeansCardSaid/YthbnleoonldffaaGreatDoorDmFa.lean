/- What is so of the program and the row by their text alone, each fact by itself. Printed by genfac.py. -/
import Derived.SevenTiedAt
import Derived.KernelRfl
import Derived.Test.YthbnleoonldffaaGreatDoorRows
import Derived.Test.YthbnleoonldffaaGreatDoorChecked
import Derived.Test.YthbnleoonldffaaGreatDoorTie
import Derived.Test.YthbnleoonldffaaGreatDoorCards
set_option linter.all false
namespace Go.Proofs.YthbnleoonldffaaGreatDoor
open Go Go.Proofs.Tryz
set_option maxRecDepth 100000
theorem fac1:(Rows.demandMeansRow.wf (OpenSpec.ofChange Rows.demandMeansSpec))=true:=by kernel_rfl
theorem fac2:(laidOutB Tryz.prog)=true:=by kernel_rfl
theorem fac3:(mapsRowed Tryz.prog)=true:=by kernel_rfl
theorem fac4:(Tryz.f6.params.all (Tryz.prog.readableRec ·))=true:=by kernel_rfl
theorem fac5:(namedTie Tryz.prog Rows.demandMeansRow.named Rows.demandMeansSpec.vars)=true:=by kernel_rfl
theorem fac6:((Rows.demandMeansRow.stops==[]))=true:=by kernel_rfl
theorem fac7:((Tryz.prog.stops==[]))=true:=by kernel_rfl
theorem fac8:((Rows.demandMeansRow.knobs==[]))=true:=by kernel_rfl
theorem fac9:((Tryz.prog.stopKnobs==[]))=true:=by kernel_rfl
theorem fac14:((Rows.demandMeansRow.maps==(Tryz.f6.params.toList++Rows.demandMeansSpec.plain.varTypes Tryz.prog).any (Tryz.prog.mapsRec ·)))=true:=by kernel_rfl
theorem fac15:((Rows.demandMeansRow.ifaces==(Tryz.f6.params.toList++Rows.demandMeansSpec.plain.varTypes Tryz.prog).any (Tryz.prog.ifacesRec ·)))=true:=by kernel_rfl
theorem fac16:((Rows.demandMeansRow.mapsOut==Tryz.prog.mapsAmong Tryz.f6.resultTypes.toList))=true:=by kernel_rfl
theorem fac17:((Rows.demandMeansRow.loops==(Tryz.f6.params.toList++Rows.demandMeansSpec.plain.varTypes Tryz.prog).any (Tryz.prog.loopsFrom ·)))=true:=by kernel_rfl
theorem fac18:((Rows.demandMeansRow.wideKeys==(Tryz.f6.params.toList++Rows.demandMeansSpec.plain.varTypes Tryz.prog++Tryz.f6.resultTypes.toList).any (Tryz.prog.wideKeysFrom ·)))=true:=by kernel_rfl
theorem fac19:(Rows.demandMeansSpec.vars.all (Tryz.prog.varReadable ·))=true:=by kernel_rfl
theorem fac20:(Tryz.f6.resultTypes.all (fun t=>Tryz.prog.readableRec t&&decide (t<Tryz.prog.types.size)))=true:=by kernel_rfl
theorem fac21:((Rows.demandMeansRow.ifacesOut==Tryz.f6.resultTypes.toList.any (Tryz.prog.ifacesRec ·)))=true:=by kernel_rfl
theorem fac22:((Rows.demandMeansRow.loopsOut==Tryz.f6.resultTypes.toList.any (Tryz.prog.loopsFrom ·)))=true:=by kernel_rfl
theorem fac23:((Rows.demandMeansRow.plainKeys==Tryz.prog.plainKeys))=true:=by kernel_rfl
theorem fac24:(Rows.demandMeansRow.shortTexts.isNone)=true:=by kernel_rfl
theorem fac25:(Tryz.prog.stopsHeard)=true:=by kernel_rfl
end Go.Proofs.YthbnleoonldffaaGreatDoor
