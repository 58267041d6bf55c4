/- Contracts of the library's functions at this program: printed by the kit's tools (lay-shelf, lay-plain), cut to what is used. -/
import Derived.Shelf.Strings.Search3
import Derived.Test.YtlimkhfjidcelaaDoorProg
set_option linter.all false
namespace Go.Proofs
open Go.Shelf
def Tryd.lays144_ren : Go.Shelf.Ren := ⟨fun | 144 => 118 | 143 => 141 | 219 => 158 | 217 => 163 | 225 => 164 | 224 => 165 | 267 => 166 | 266 => 167 | 314 => 168 | n => n, fun | 9 => 9 | 4 => 4 | 3 => 3 | 5 => 5 | 46 => 165 | 146 => 209 | 51 => 196 | n => n, fun | 1 => 6 | n => n⟩
theorem Tryd.lays144 : Go.Proofs.Lays.n144 Tryd.prog Tryd.lays144_ren := {
  mixed := by kernel_rfl
  f143 := Tryd.func141.trans (congrArg some (by kernel_rfl))
  f144 := Tryd.func118.trans (congrArg some (by kernel_rfl))
  f217 := Tryd.func163.trans (congrArg some (by kernel_rfl))
  f219 := Tryd.func158.trans (congrArg some (by kernel_rfl))
  f224 := Tryd.func165.trans (congrArg some (by kernel_rfl))
  f225 := Tryd.func164.trans (congrArg some (by kernel_rfl))
  f266 := Tryd.func167.trans (congrArg some (by kernel_rfl))
  f267 := Tryd.func166.trans (congrArg some (by kernel_rfl))
  f314 := Tryd.func168.trans (congrArg some (by kernel_rfl))
  t3 := Tryd.underlying3
  a3 := Tryd.isAgg3
  z3 := Tryd.sizeOf3
  v3 := Tryd.zeroValue3
  t4 := Tryd.underlying4
  a4 := Tryd.isAgg4
  z4 := Tryd.sizeOf4
  v4 := Tryd.zeroValue4
  t5 := Tryd.underlying5
  a5 := Tryd.isAgg5
  z5 := Tryd.sizeOf5
  v5 := Tryd.zeroValue5
  t9 := Tryd.underlying9
  a9 := Tryd.isAgg9
  z9 := Tryd.sizeOf9
  v9 := Tryd.zeroValue9
  t46 := Tryd.underlying165
  a46 := Tryd.isAgg165
  z46 := Tryd.sizeOf165
  v46 := Tryd.zeroValue165
  t51 := Tryd.underlying196
  a51 := Tryd.isAgg196
  z51 := Tryd.sizeOf196
  v51 := Tryd.zeroValue196
  t146 := Tryd.underlying209
  a146 := Tryd.isAgg209
  z146 := Tryd.sizeOf209
  v146 := Tryd.zeroValue209
  g1 := by kernel_rfl }
open Go.RowKit Go.Lib in
theorem Tryd.strings_Contains (s sub : ByteArray) (m : Int) (w : World) (hs : s.size < 4294967281) (hm : w.cell? ⟨6, 0, none⟩ = some (.int .i64 m)) :
    Calls Tryd.prog 118 #[.string s, .string sub] w fun e w' => e = .returned (.bool (Lib.contains s.data.toList sub.data.toList)) ∧ w' = w := Any.strings_Contains Tryd.lays144 s sub m w hs hm
end Go.Proofs
