/- Expressions: their cells. -/
import Derived.Test.YtnbbnkmaoaogeaaVal
set_option linter.all false
namespace Go.Proofs.Try
open Go.Ab

@[simp] theorem cvAs_d (r : Nat → Option Nat) (bl : Nat → Blk) (kn : Bool) : ∀ l : List D, cvAs r bl kn (l.map AV.d) = (l.map AV.d, [])
  | [] => rfl
  | x :: l => by rw [List.map_cons, cvAs, cvAs_d r bl kn l]; rfl

inductive Ex where
  | mk (o c n : Int) (t : List UInt8) (g : Int) (kids : List Ex)
def Ex.kids : Ex → List Ex | .mk _ _ _ _ _ ks => ks
mutual
def Ex.c : Ex → List D
  | .mk o c n t g ks => [.int .i64 o, .int .i64 c, .int .i64 n, .str t, .int .i64 g, .sl (kidsC ks)]
def kidsC : List Ex → List (List D)
  | [] => []
  | e :: es => e.c :: kidsC es
end
theorem kidsC_map : ∀ l : List Ex, kidsC l = l.map Ex.c
  | [] => rfl
  | e :: es => by rw [kidsC, kidsC_map es]; rfl
def Ex.a (e : Ex) : AV := .agg (e.c.map AV.d)
theorem Ex.kid_lt {e k : Ex} (h : k ∈ e.kids) : SizeOf.sizeOf k < SizeOf.sizeOf e := by
  cases e
  have := List.sizeOf_lt_of_mem h
  simp only [Ex.kids] at this
  simp only [Ex.mk.sizeOf_spec]
  omega

theorem Ex.clen (e : Ex) : e.c.length = 6 := by cases e; rfl
theorem Ex.ctake (e : Ex) : List.take 6 (e.c.map AV.d) = e.c.map AV.d := List.take_of_length_le (by simp [Ex.clen])
@[simp] theorem toDs_d (bl : Nat → Blk) : ∀ l : List D, toDs bl (l.map AV.d) = some (l, [])
  | [] => rfl
  | x :: l => by rw [List.map_cons, toDs, toDs_d bl l]; rfl
@[simp] theorem names_d : ∀ l : List D, List.flatMap AV.names (l.map AV.d) = []
  | [] => rfl
  | x :: l => by rw [List.map_cons, List.flatMap_cons, names_d l]; rfl
theorem Ex.ctake' (e : Ex) : List.take 6 e.c = e.c := List.take_of_length_le (by simp [Ex.clen])

end Go.Proofs.Try
