/- Expressions: their cells. -/
import Derived.Test.YtlimkhfjidcelaaGreatDoorVal
import Derived.Test.YtlimkhfjidcelaaGreatDoorExc0
set_option linter.all false
namespace Go.Proofs.Tryz
open Go.Ab

inductive Ex where
  | mk (o c n : Int) (t : List UInt8) (g : Int) (kids : List Ex)
def Ex.kids : Ex → List Ex | .mk _ _ _ _ _ ks => ks
mutual
def Ex.c : Ex → List D
  | .mk o c n t g ks => [.int .i64 o, .int .i64 c, .int .i64 n, .str t, .int .i64 g, .sl (kidsC ks)]
def kidsC : List Ex → List (List D)
  | [] => []
  | e :: es => e.c :: kidsC es
end
theorem kidsC_map : ∀ l : List Ex, kidsC l = l.map Ex.c
  | [] => rfl
  | e :: es => by rw [kidsC, kidsC_map es]; rfl
def Ex.a (e : Ex) : AV := .agg (e.c.map AV.d)
theorem Ex.kid_lt {e k : Ex} (h : k ∈ e.kids) : SizeOf.sizeOf k < SizeOf.sizeOf e := by
  cases e
  have := List.sizeOf_lt_of_mem h
  simp only [Ex.kids] at this
  simp only [Ex.mk.sizeOf_spec]
  omega

theorem Ex.clen (e : Ex) : e.c.length = 6 := by cases e; rfl
theorem Ex.ctake (e : Ex) : List.take 6 (e.c.map AV.d) = e.c.map AV.d := List.take_of_length_le (by simp [Ex.clen])
theorem Ex.ctake' (e : Ex) : List.take 6 e.c = e.c := List.take_of_length_le (by simp [Ex.clen])

end Go.Proofs.Tryz
