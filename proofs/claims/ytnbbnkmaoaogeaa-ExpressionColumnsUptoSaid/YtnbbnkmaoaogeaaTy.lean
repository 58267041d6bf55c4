/- What is known of the program's types. Printed by types.py. -/
import Derived.Test.YtnbbnkmaoaogeaaAbB
import Derived.Test.YtnbbnkmaoaogeaaProg
set_option linter.all false
namespace Go.Proofs.Try
open Go.Ab
noncomputable def En : Env := ⟨Try.prog, fun _ => none⟩
@[simp] theorem En_P : En.P = Try.prog := id rfl
@[simp] theorem En_G (g : Nat) : En.G g = none := rfl
theorem mix : En.P.follows .mixedOrders = true := by kernel_rfl
@[simp] theorem tinf1 : tinf Try.prog 1 = some { size := 1, bytes := 8, zero := some [Value.nilFunc], kind := TK.other } := by kernel_rfl
@[simp] theorem tinf2 : tinf Try.prog 2 = some { size := 1, bytes := 8, zero := some [Value.int IntKind.i64 (0)], kind := TK.int IntKind.i64 } := by kernel_rfl
@[simp] theorem tinf3 : tinf Try.prog 3 = some { size := 1, bytes := 8, zero := some [Value.int IntKind.i64 (0)], kind := TK.int IntKind.i64 } := by kernel_rfl
@[simp] theorem tinf4 : tinf Try.prog 4 = some { size := 1, bytes := 1, zero := some [Value.bool false], kind := TK.bool } := by kernel_rfl
@[simp] theorem tinf5 : tinf Try.prog 5 = some { size := 1, bytes := 1, zero := some [Value.int IntKind.u8 (0)], kind := TK.int IntKind.u8 } := by kernel_rfl
@[simp] theorem tinf6 : tinf Try.prog 6 = some { size := 1, bytes := 1, zero := some [Value.int IntKind.u8 (0)], kind := TK.int IntKind.u8 } := by kernel_rfl
@[simp] theorem tinf7 : tinf Try.prog 7 = some { size := 4, bytes := 24, zero := some [Value.int IntKind.i64 (0), Value.int IntKind.i64 (0), Value.bool false, Value.int IntKind.u8 (0)], kind := TK.struct [(0, 1, false), (1, 1, false), (2, 1, false), (3, 1, false)] } := by kernel_rfl
@[simp] theorem plain7 : plainKinds Try.prog 7 = some [TK.int IntKind.i64, TK.int IntKind.i64, TK.bool, TK.int IntKind.u8] := by kernel_rfl
@[simp] theorem tinf8 : tinf Try.prog 8 = some { size := 4, bytes := 24, zero := some [Value.int IntKind.i64 (0), Value.int IntKind.i64 (0), Value.bool false, Value.int IntKind.u8 (0)], kind := TK.struct [(0, 1, false), (1, 1, false), (2, 1, false), (3, 1, false)] } := by kernel_rfl
@[simp] theorem plain8 : plainKinds Try.prog 8 = some [TK.int IntKind.i64, TK.int IntKind.i64, TK.bool, TK.int IntKind.u8] := by kernel_rfl
@[simp] theorem tinf9 : tinf Try.prog 9 = some { size := 1, bytes := 16, zero := some [Value.string { data := { toList := [] } }], kind := TK.string } := by kernel_rfl
@[simp] theorem tinf10 : tinf Try.prog 10 = some { size := 1, bytes := 16, zero := some [Value.string { data := { toList := [] } }], kind := TK.string } := by kernel_rfl
@[simp] theorem tinf11 : tinf Try.prog 11 = some { size := 1, bytes := 16, zero := some [Value.string { data := { toList := [] } }], kind := TK.string } := by kernel_rfl
@[simp] theorem tinf12 : tinf Try.prog 12 = some { size := 1, bytes := 8, zero := some [Value.int IntKind.u64 (0)], kind := TK.int IntKind.u64 } := by kernel_rfl
@[simp] theorem tinf13 : tinf Try.prog 13 = some { size := 2, bytes := 24, zero := some [Value.string { data := { toList := [] } }, Value.int IntKind.u64 (0)], kind := TK.struct [(0, 1, false), (1, 1, false)] } := by kernel_rfl
@[simp] theorem tinf14 : tinf Try.prog 14 = some { size := 2, bytes := 24, zero := some [Value.string { data := { toList := [] } }, Value.int IntKind.u64 (0)], kind := TK.struct [(0, 1, false), (1, 1, false)] } := by kernel_rfl
@[simp] theorem tinf15 : tinf Try.prog 15 = some { size := 1, bytes := 8, zero := some [Value.pointer none], kind := TK.other } := by kernel_rfl
@[simp] theorem tinf16 : tinf Try.prog 16 = some { size := 1, bytes := 8, zero := some [Value.pointer none], kind := TK.other } := by kernel_rfl
@[simp] theorem tinf17 : tinf Try.prog 17 = some { size := 1, bytes := 8, zero := some [Value.pointer none], kind := TK.other } := by kernel_rfl
@[simp] theorem tinf18 : tinf Try.prog 18 = some { size := 1, bytes := 8, zero := some [Value.pointer none], kind := TK.struct [(0, 1, false)] } := by kernel_rfl
@[simp] theorem tinf19 : tinf Try.prog 19 = some { size := 1, bytes := 8, zero := some [Value.pointer none], kind := TK.struct [(0, 1, false)] } := by kernel_rfl
@[simp] theorem tinf20 : tinf Try.prog 20 = some { size := 1, bytes := 16, zero := some [Value.nilIface], kind := TK.other } := by kernel_rfl
@[simp] theorem tinf21 : tinf Try.prog 21 = some { size := 1, bytes := 4, zero := some [Value.int IntKind.i32 (0)], kind := TK.int IntKind.i32 } := by kernel_rfl
@[simp] theorem tinf22 : tinf Try.prog 22 = some { size := 1, bytes := 24, zero := some [Value.slice none 0 0], kind := TK.slice 24 } := by kernel_rfl
@[simp] theorem tinf23 : tinf Try.prog 23 = some { size := 6, bytes := 72, zero := some [Value.int IntKind.i64 (0), Value.int IntKind.i64 (0), Value.int IntKind.i64 (0), Value.string { data := { toList := [] } }, Value.int IntKind.i64 (0), Value.slice none 0 0], kind := TK.struct [(0, 1, false), (1, 1, false), (2, 1, false), (3, 1, false), (4, 1, false), (5, 1, false)] } := by kernel_rfl
@[simp] theorem plain23 : plainKinds Try.prog 23 = some [TK.int IntKind.i64, TK.int IntKind.i64, TK.int IntKind.i64, TK.string, TK.int IntKind.i64, TK.slice 24] := by kernel_rfl
@[simp] theorem tinf24 : tinf Try.prog 24 = some { size := 6, bytes := 72, zero := some [Value.int IntKind.i64 (0), Value.int IntKind.i64 (0), Value.int IntKind.i64 (0), Value.string { data := { toList := [] } }, Value.int IntKind.i64 (0), Value.slice none 0 0], kind := TK.struct [(0, 1, false), (1, 1, false), (2, 1, false), (3, 1, false), (4, 1, false), (5, 1, false)] } := by kernel_rfl
@[simp] theorem plain24 : plainKinds Try.prog 24 = some [TK.int IntKind.i64, TK.int IntKind.i64, TK.int IntKind.i64, TK.string, TK.int IntKind.i64, TK.slice 24] := by kernel_rfl
@[simp] theorem tinf25 : tinf Try.prog 25 = some { size := 3, bytes := 32, zero := some [Value.int IntKind.i64 (0), Value.int IntKind.i64 (0), Value.string { data := { toList := [] } }], kind := TK.struct [(0, 1, false), (1, 1, false), (2, 1, false)] } := by kernel_rfl
@[simp] theorem plain25 : plainKinds Try.prog 25 = some [TK.int IntKind.i64, TK.int IntKind.i64, TK.string] := by kernel_rfl
@[simp] theorem tinf26 : tinf Try.prog 26 = some { size := 3, bytes := 32, zero := some [Value.int IntKind.i64 (0), Value.int IntKind.i64 (0), Value.string { data := { toList := [] } }], kind := TK.struct [(0, 1, false), (1, 1, false), (2, 1, false)] } := by kernel_rfl
@[simp] theorem plain26 : plainKinds Try.prog 26 = some [TK.int IntKind.i64, TK.int IntKind.i64, TK.string] := by kernel_rfl
@[simp] theorem tinf27 : tinf Try.prog 27 = some { size := 1, bytes := 8, zero := some [Value.nilFunc], kind := TK.other } := by kernel_rfl
@[simp] theorem tinf28 : tinf Try.prog 28 = some { size := 1, bytes := 8, zero := some [Value.nilFunc], kind := TK.other } := by kernel_rfl
@[simp] theorem tinf29 : tinf Try.prog 29 = some { size := 1, bytes := 8, zero := some [Value.nilFunc], kind := TK.other } := by kernel_rfl
@[simp] theorem tinf30 : tinf Try.prog 30 = some { size := 1, bytes := 8, zero := some [Value.nilFunc], kind := TK.other } := by kernel_rfl
@[simp] theorem tinf31 : tinf Try.prog 31 = some { size := 1, bytes := 8, zero := some [Value.nilFunc], kind := TK.other } := by kernel_rfl
@[simp] theorem tinf32 : tinf Try.prog 32 = some { size := 1, bytes := 24, zero := some [Value.slice none 0 0], kind := TK.slice 26 } := by kernel_rfl
@[simp] theorem tinf33 : tinf Try.prog 33 = some { size := 1, bytes := 8, zero := some [Value.nilFunc], kind := TK.other } := by kernel_rfl
@[simp] theorem tinf34 : tinf Try.prog 34 = some { size := 1, bytes := 8, zero := some [Value.nilFunc], kind := TK.other } := by kernel_rfl
@[simp] theorem tinf35 : tinf Try.prog 35 = some { size := 1, bytes := 8, zero := some [Value.nilFunc], kind := TK.other } := by kernel_rfl
@[simp] theorem tinf36 : tinf Try.prog 36 = some { size := 1, bytes := 8, zero := some [Value.nilFunc], kind := TK.other } := by kernel_rfl
@[simp] theorem tinf37 : tinf Try.prog 37 = some { size := 1, bytes := 8, zero := some [Value.nilFunc], kind := TK.other } := by kernel_rfl
@[simp] theorem tinf38 : tinf Try.prog 38 = some { size := 1, bytes := 8, zero := some [Value.nilFunc], kind := TK.other } := by kernel_rfl
@[simp] theorem tinf39 : tinf Try.prog 39 = some { size := 1, bytes := 8, zero := some [Value.nilFunc], kind := TK.other } := by kernel_rfl
@[simp] theorem tinf40 : tinf Try.prog 40 = some { size := 1, bytes := 24, zero := some [Value.slice none 0 0], kind := TK.slice 3 } := by kernel_rfl
@[simp] theorem tinf41 : tinf Try.prog 41 = some { size := 1, bytes := 8, zero := some [Value.nilFunc], kind := TK.other } := by kernel_rfl
@[simp] theorem tinf42 : tinf Try.prog 42 = some { size := 1, bytes := 8, zero := some [Value.nilFunc], kind := TK.other } := by kernel_rfl
@[simp] theorem tinf43 : tinf Try.prog 43 = some { size := 1, bytes := 8, zero := some [Value.nilFunc], kind := TK.other } := by kernel_rfl
@[simp] theorem tinf44 : tinf Try.prog 44 = some { size := 1, bytes := 8, zero := some [Value.nilFunc], kind := TK.other } := by kernel_rfl
@[simp] theorem tinf45 : tinf Try.prog 45 = some { size := 1, bytes := 8, zero := some [Value.nilFunc], kind := TK.other } := by kernel_rfl
@[simp] theorem tinf46 : tinf Try.prog 46 = some { size := 1, bytes := 8, zero := some [Value.nilFunc], kind := TK.other } := by kernel_rfl
@[simp] theorem tinf47 : tinf Try.prog 47 = some { size := 1, bytes := 8, zero := some [Value.nilFunc], kind := TK.other } := by kernel_rfl
@[simp] theorem tinf48 : tinf Try.prog 48 = some { size := 1, bytes := 8, zero := some [Value.nilFunc], kind := TK.other } := by kernel_rfl
@[simp] theorem tinf49 : tinf Try.prog 49 = some { size := 1, bytes := 8, zero := some [Value.nilFunc], kind := TK.other } := by kernel_rfl
@[simp] theorem tinf50 : tinf Try.prog 50 = some { size := 1, bytes := 8, zero := some [Value.nilFunc], kind := TK.other } := by kernel_rfl
@[simp] theorem tinf51 : tinf Try.prog 51 = some { size := 1, bytes := 8, zero := some [Value.nilFunc], kind := TK.other } := by kernel_rfl
@[simp] theorem tinf52 : tinf Try.prog 52 = some { size := 1, bytes := 8, zero := some [Value.nilFunc], kind := TK.other } := by kernel_rfl
@[simp] theorem tinf53 : tinf Try.prog 53 = some { size := 1, bytes := 8, zero := some [Value.nilFunc], kind := TK.other } := by kernel_rfl
@[simp] theorem tinf54 : tinf Try.prog 54 = some { size := 1, bytes := 8, zero := some [Value.nilFunc], kind := TK.other } := by kernel_rfl
@[simp] theorem tinf55 : tinf Try.prog 55 = some { size := 1, bytes := 8, zero := some [Value.nilFunc], kind := TK.other } := by kernel_rfl
@[simp] theorem tinf56 : tinf Try.prog 56 = some { size := 1, bytes := 8, zero := some [Value.nilFunc], kind := TK.other } := by kernel_rfl
@[simp] theorem tinf57 : tinf Try.prog 57 = some { size := 1, bytes := 8, zero := some [Value.nilFunc], kind := TK.other } := by kernel_rfl
@[simp] theorem tinf58 : tinf Try.prog 58 = some { size := 1, bytes := 8, zero := some [Value.nilFunc], kind := TK.other } := by kernel_rfl
@[simp] theorem tinf59 : tinf Try.prog 59 = some { size := 1, bytes := 8, zero := some [Value.nilFunc], kind := TK.other } := by kernel_rfl
end Go.Proofs.Try
