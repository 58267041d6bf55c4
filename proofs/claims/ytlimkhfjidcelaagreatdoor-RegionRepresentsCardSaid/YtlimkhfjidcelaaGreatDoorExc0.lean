/- Lists of data as cells. -/
import Derived.Test.YtlimkhfjidcelaaGreatDoorTy
set_option linter.all false
namespace Go.Proofs.Tryz
open Go.Ab
@[simp] theorem cvAs_d (r : Nat → Option Nat) (bl : Nat → Blk) (kn : Bool) : ∀ l : List D, cvAs r bl kn (l.map AV.d) = (l.map AV.d, [])
  | [] => rfl
  | x :: l => by rw [List.map_cons, cvAs, cvAs_d r bl kn l]; rfl
@[simp] theorem toDs_d (bl : Nat → Blk) : ∀ l : List D, toDs bl (l.map AV.d) = some (l, [])
  | [] => rfl
  | x :: l => by rw [List.map_cons, toDs, toDs_d bl l]; rfl
@[simp] theorem names_d : ∀ l : List D, List.flatMap AV.names (l.map AV.d) = []
  | [] => rfl
  | x :: l => by rw [List.map_cons, List.flatMap_cons, names_d l]; rfl
end Go.Proofs.Tryz
