/- Values: their cells. -/
import Derived.Test.YtlimkhfjidcelaaGreatDoorTy
set_option linter.all false
namespace Go.Proofs.Tryz
open Go.Ab

structure V where
  k : Int
  n : Int
  t : List UInt8
def V.a (v : V) : AV := .agg [.d (.int .i64 v.k), .d (.int .i64 v.n), .d (.str v.t)]
def V.c (v : V) : List D := [.int .i64 v.k, .int .i64 v.n, .str v.t]
end Go.Proofs.Tryz
