/- Expressions: Constant. -/
import Derived.Test.YtlimkhfjidcelaaGreatDoorExc
set_option linter.all false
namespace Go.Proofs.Tryz
open Go.Ab

def constOf (v : V) (i : Int) : Ex :=
  if v.k = 1 then .mk 2 0 v.n [] 0 [] else if v.k = 2 then .mk 3 0 v.n [] 0 [] else if v.k = 3 then .mk 4 0 0 v.t 0 [] else .mk 1 i 0 [] 0 []

theorem e_const (v : V) (i : Int) : Cf En 125 [v.a, .d (.int .i64 i)] [] (constOf v i).a [] := by
  refine cf_intro mix (fn := Tryz.f125) (by kernel_rfl) rfl (by kernel_rfl) (by decide) (by simp) ?_
  unfold constOf
  by_cases h1 : v.k = 1
  · simp [V.a, h1, Ex.a, Ex.c, kidsC]
    repeat' (first | exact .of (by kernel_rfl) | refine And.intro ?_ ?_)
  by_cases h2 : v.k = 2
  · simp [V.a, h2, Ex.a, Ex.c, kidsC]
    repeat' (first | exact .of (by kernel_rfl) | refine And.intro ?_ ?_)
  by_cases h3 : v.k = 3
  · simp [V.a, h3, Ex.a, Ex.c, kidsC]
    repeat' (first | exact .of (by kernel_rfl) | refine And.intro ?_ ?_)
  · simp [V.a, h1, h2, h3, Ex.a, Ex.c, kidsC]
    repeat' (first | exact .of (by kernel_rfl) | refine And.intro ?_ ?_)

theorem r_const (v : V) (i : Int) : Cf En 44 [v.a, .d (.int .i64 i)] [] (constOf v i).a [] := by
  refine cf_intro mix (fn := Tryz.f44) (by kernel_rfl) rfl (by kernel_rfl) (by decide) (by simp) ?_
  unfold constOf
  by_cases h1 : v.k = 1
  · simp [V.a, h1, Ex.a, Ex.c, kidsC]
    repeat' (first | exact .of (by kernel_rfl) | refine And.intro ?_ ?_)
  by_cases h2 : v.k = 2
  · simp [V.a, h2, Ex.a, Ex.c, kidsC]
    repeat' (first | exact .of (by kernel_rfl) | refine And.intro ?_ ?_)
  by_cases h3 : v.k = 3
  · simp [V.a, h3, Ex.a, Ex.c, kidsC]
    repeat' (first | exact .of (by kernel_rfl) | refine And.intro ?_ ?_)
  · simp [V.a, h1, h2, h3, Ex.a, Ex.c, kidsC]
    repeat' (first | exact .of (by kernel_rfl) | refine And.intro ?_ ?_)
end Go.Proofs.Tryz
