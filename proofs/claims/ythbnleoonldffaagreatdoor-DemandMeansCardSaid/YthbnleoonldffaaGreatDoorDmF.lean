/- What is so of the program and the row by their text alone, each fact by itself. Printed by genfac.py. -/
import Derived.Test.YthbnleoonldffaaGreatDoorDmFa
import Derived.Test.YthbnleoonldffaaGreatDoorDmFb
import Derived.Test.YthbnleoonldffaaGreatDoorDmFc
import Derived.SevenTiedAt
import Derived.KernelRfl
import Derived.Test.YthbnleoonldffaaGreatDoorRows
import Derived.Test.YthbnleoonldffaaGreatDoorChecked
import Derived.Test.YthbnleoonldffaaGreatDoorTie
import Derived.Test.YthbnleoonldffaaGreatDoorCards
set_option linter.all false
namespace Go.Proofs.YthbnleoonldffaaGreatDoor
open Go Go.Proofs.Tryz
set_option maxRecDepth 100000
theorem facAll:joinedFacts Tryz.prog 6 Tryz.f6 Rows.demandMeansSpec Rows.demandMeansRow=true:=by
 simp only [joinedFacts,fac1,fac2,fac3,fac4,fac5,fac6,fac7,fac8,fac9,fac10,fac11,fac12,fac13,fac14,fac15,fac16,fac17,fac18,fac19,fac20,fac21,fac22,fac23,fac24,fac25,fac26,fac27,fac28,fac30,fac31,fac32]
 kernel_rfl
end Go.Proofs.YthbnleoonldffaaGreatDoor
