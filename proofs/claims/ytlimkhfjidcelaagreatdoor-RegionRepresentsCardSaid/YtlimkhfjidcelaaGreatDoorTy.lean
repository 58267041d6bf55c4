/- What is known of the program's types. Printed by types.py. -/
import Derived.Test.YtlimkhfjidcelaaGreatDoorAbB
import Derived.Test.YtlimkhfjidcelaaGreatDoorProg
set_option linter.all false
namespace Go.Proofs.Tryz
open Go.Ab
noncomputable def En : Env := ⟨Tryz.prog, fun g => if g = 0 then some [.int .i64 0, .int .i64 0, .str []] else none⟩
@[simp] theorem En_P : En.P = Tryz.prog := id rfl
@[simp] theorem En_G (g : Nat) : En.G g = if g = 0 then some [.int .i64 0, .int .i64 0, .str []] else none := rfl
theorem mix : En.P.follows .mixedOrders = true := by kernel_rfl
@[simp] theorem tinf1 : tinf Tryz.prog 1 = some { size := 1, bytes := 8, zero := some [Value.nilFunc], kind := TK.other } := by kernel_rfl
@[simp] theorem tinf2 : tinf Tryz.prog 2 = some { size := 1, bytes := 8, zero := some [Value.int IntKind.i64 (0)], kind := TK.int IntKind.i64 } := by kernel_rfl
@[simp] theorem tinf3 : tinf Tryz.prog 3 = some { size := 1, bytes := 8, zero := some [Value.int IntKind.i64 (0)], kind := TK.int IntKind.i64 } := by kernel_rfl
@[simp] theorem tinf4 : tinf Tryz.prog 4 = some { size := 1, bytes := 1, zero := some [Value.bool false], kind := TK.bool } := by kernel_rfl
@[simp] theorem tinf5 : tinf Tryz.prog 5 = some { size := 1, bytes := 1, zero := some [Value.int IntKind.u8 (0)], kind := TK.int IntKind.u8 } := by kernel_rfl
@[simp] theorem tinf6 : tinf Tryz.prog 6 = some { size := 1, bytes := 1, zero := some [Value.int IntKind.u8 (0)], kind := TK.int IntKind.u8 } := by kernel_rfl
@[simp] theorem tinf7 : tinf Tryz.prog 7 = some { size := 4, bytes := 24, zero := some [Value.int IntKind.i64 (0), Value.int IntKind.i64 (0), Value.bool false, Value.int IntKind.u8 (0)], kind := TK.struct [(0, 1, false), (1, 1, false), (2, 1, false), (3, 1, false)] } := by kernel_rfl
@[simp] theorem plain7 : plainKinds Tryz.prog 7 = some [TK.int IntKind.i64, TK.int IntKind.i64, TK.bool, TK.int IntKind.u8] := by kernel_rfl
@[simp] theorem tinf8 : tinf Tryz.prog 8 = some { size := 4, bytes := 24, zero := some [Value.int IntKind.i64 (0), Value.int IntKind.i64 (0), Value.bool false, Value.int IntKind.u8 (0)], kind := TK.struct [(0, 1, false), (1, 1, false), (2, 1, false), (3, 1, false)] } := by kernel_rfl
@[simp] theorem plain8 : plainKinds Tryz.prog 8 = some [TK.int IntKind.i64, TK.int IntKind.i64, TK.bool, TK.int IntKind.u8] := by kernel_rfl
@[simp] theorem tinf9 : tinf Tryz.prog 9 = some { size := 1, bytes := 16, zero := some [Value.string { data := { toList := [] } }], kind := TK.string } := by kernel_rfl
@[simp] theorem tinf10 : tinf Tryz.prog 10 = some { size := 1, bytes := 16, zero := some [Value.string { data := { toList := [] } }], kind := TK.string } := by kernel_rfl
@[simp] theorem tinf11 : tinf Tryz.prog 11 = some { size := 1, bytes := 16, zero := some [Value.string { data := { toList := [] } }], kind := TK.string } := by kernel_rfl
@[simp] theorem tinf12 : tinf Tryz.prog 12 = some { size := 1, bytes := 8, zero := some [Value.int IntKind.u64 (0)], kind := TK.int IntKind.u64 } := by kernel_rfl
@[simp] theorem tinf13 : tinf Tryz.prog 13 = some { size := 2, bytes := 24, zero := some [Value.string { data := { toList := [] } }, Value.int IntKind.u64 (0)], kind := TK.struct [(0, 1, false), (1, 1, false)] } := by kernel_rfl
@[simp] theorem tinf14 : tinf Tryz.prog 14 = some { size := 2, bytes := 24, zero := some [Value.string { data := { toList := [] } }, Value.int IntKind.u64 (0)], kind := TK.struct [(0, 1, false), (1, 1, false)] } := by kernel_rfl
@[simp] theorem tinf15 : tinf Tryz.prog 15 = some { size := 1, bytes := 8, zero := some [Value.pointer none], kind := TK.other } := by kernel_rfl
@[simp] theorem tinf16 : tinf Tryz.prog 16 = some { size := 1, bytes := 8, zero := some [Value.pointer none], kind := TK.other } := by kernel_rfl
@[simp] theorem tinf17 : tinf Tryz.prog 17 = some { size := 1, bytes := 8, zero := some [Value.pointer none], kind := TK.other } := by kernel_rfl
@[simp] theorem tinf18 : tinf Tryz.prog 18 = some { size := 1, bytes := 8, zero := some [Value.pointer none], kind := TK.struct [(0, 1, false)] } := by kernel_rfl
@[simp] theorem tinf19 : tinf Tryz.prog 19 = some { size := 1, bytes := 8, zero := some [Value.pointer none], kind := TK.struct [(0, 1, false)] } := by kernel_rfl
@[simp] theorem tinf20 : tinf Tryz.prog 20 = some { size := 1, bytes := 16, zero := some [Value.nilIface], kind := TK.other } := by kernel_rfl
@[simp] theorem tinf21 : tinf Tryz.prog 21 = some { size := 1, bytes := 4, zero := some [Value.int IntKind.i32 (0)], kind := TK.int IntKind.i32 } := by kernel_rfl
@[simp] theorem tinf22 : tinf Tryz.prog 22 = some { size := 1, bytes := 24, zero := some [Value.slice none 0 0], kind := TK.slice 3 } := by kernel_rfl
@[simp] theorem tinf23 : tinf Tryz.prog 23 = some { size := 1, bytes := 24, zero := some [Value.slice none 0 0], kind := TK.slice 37 } := by kernel_rfl
@[simp] theorem tinf24 : tinf Tryz.prog 24 = some { size := 1, bytes := 24, zero := some [Value.slice none 0 0], kind := TK.struct [(0, 1, false)] } := by kernel_rfl
@[simp] theorem plain24 : plainKinds Tryz.prog 24 = some [TK.slice 37] := by kernel_rfl
@[simp] theorem tinf25 : tinf Tryz.prog 25 = some { size := 1, bytes := 24, zero := some [Value.slice none 0 0], kind := TK.struct [(0, 1, false)] } := by kernel_rfl
@[simp] theorem plain25 : plainKinds Tryz.prog 25 = some [TK.slice 37] := by kernel_rfl
@[simp] theorem tinf26 : tinf Tryz.prog 26 = some { size := 1, bytes := 8, zero := some [Value.nilFunc], kind := TK.other } := by kernel_rfl
@[simp] theorem tinf27 : tinf Tryz.prog 27 = some { size := 1, bytes := 8, zero := some [Value.pointer none], kind := TK.other } := by kernel_rfl
@[simp] theorem tinf28 : tinf Tryz.prog 28 = some { size := 2, bytes := 32, zero := some [Value.slice none 0 0, Value.int IntKind.i64 (0)], kind := TK.struct [(0, 1, false), (1, 1, false)] } := by kernel_rfl
@[simp] theorem plain28 : plainKinds Tryz.prog 28 = some [TK.slice 3, TK.int IntKind.i64] := by kernel_rfl
@[simp] theorem tinf29 : tinf Tryz.prog 29 = some { size := 2, bytes := 32, zero := some [Value.slice none 0 0, Value.int IntKind.i64 (0)], kind := TK.struct [(0, 1, false), (1, 1, false)] } := by kernel_rfl
@[simp] theorem plain29 : plainKinds Tryz.prog 29 = some [TK.slice 3, TK.int IntKind.i64] := by kernel_rfl
@[simp] theorem tinf30 : tinf Tryz.prog 30 = some { size := 1, bytes := 8, zero := some [Value.nilFunc], kind := TK.other } := by kernel_rfl
@[simp] theorem tinf31 : tinf Tryz.prog 31 = some { size := 1, bytes := 8, zero := some [Value.pointer none], kind := TK.other } := by kernel_rfl
@[simp] theorem tinf32 : tinf Tryz.prog 32 = some { size := 1, bytes := 24, zero := some [Value.slice none 0 0], kind := TK.slice 40 } := by kernel_rfl
@[simp] theorem tinf33 : tinf Tryz.prog 33 = some { size := 1, bytes := 24, zero := some [Value.slice none 0 0], kind := TK.slice 22 } := by kernel_rfl
@[simp] theorem tinf34 : tinf Tryz.prog 34 = some { size := 1, bytes := 24, zero := some [Value.slice none 0 0], kind := TK.slice 44 } := by kernel_rfl
@[simp] theorem tinf35 : tinf Tryz.prog 35 = some { size := 1, bytes := 24, zero := some [Value.slice none 0 0], kind := TK.slice 42 } := by kernel_rfl
@[simp] theorem tinf36 : tinf Tryz.prog 36 = some { size := 6, bytes := 136, zero := some [Value.string { data := { toList := [] } }, Value.slice none 0 0, Value.slice none 0 0, Value.slice none 0 0, Value.slice none 0 0, Value.slice none 0 0], kind := TK.struct [(0, 1, false), (1, 1, false), (2, 1, false), (3, 1, false), (4, 1, false), (5, 1, false)] } := by kernel_rfl
@[simp] theorem plain36 : plainKinds Tryz.prog 36 = some [TK.string, TK.slice 40, TK.slice 3, TK.slice 22, TK.slice 44, TK.slice 42] := by kernel_rfl
@[simp] theorem tinf37 : tinf Tryz.prog 37 = some { size := 6, bytes := 136, zero := some [Value.string { data := { toList := [] } }, Value.slice none 0 0, Value.slice none 0 0, Value.slice none 0 0, Value.slice none 0 0, Value.slice none 0 0], kind := TK.struct [(0, 1, false), (1, 1, false), (2, 1, false), (3, 1, false), (4, 1, false), (5, 1, false)] } := by kernel_rfl
@[simp] theorem plain37 : plainKinds Tryz.prog 37 = some [TK.string, TK.slice 40, TK.slice 3, TK.slice 22, TK.slice 44, TK.slice 42] := by kernel_rfl
@[simp] theorem tinf38 : tinf Tryz.prog 38 = some { size := 1, bytes := 8, zero := some [Value.nilFunc], kind := TK.other } := by kernel_rfl
@[simp] theorem tinf39 : tinf Tryz.prog 39 = some { size := 3, bytes := 32, zero := some [Value.string { data := { toList := [] } }, Value.int IntKind.i64 (0), Value.bool false], kind := TK.struct [(0, 1, false), (1, 1, false), (2, 1, false)] } := by kernel_rfl
@[simp] theorem plain39 : plainKinds Tryz.prog 39 = some [TK.string, TK.int IntKind.i64, TK.bool] := by kernel_rfl
@[simp] theorem tinf40 : tinf Tryz.prog 40 = some { size := 3, bytes := 32, zero := some [Value.string { data := { toList := [] } }, Value.int IntKind.i64 (0), Value.bool false], kind := TK.struct [(0, 1, false), (1, 1, false), (2, 1, false)] } := by kernel_rfl
@[simp] theorem plain40 : plainKinds Tryz.prog 40 = some [TK.string, TK.int IntKind.i64, TK.bool] := by kernel_rfl
@[simp] theorem tinf41 : tinf Tryz.prog 41 = some { size := 6, bytes := 72, zero := some [Value.int IntKind.i64 (0), Value.int IntKind.i64 (0), Value.int IntKind.i64 (0), Value.string { data := { toList := [] } }, Value.int IntKind.i64 (0), Value.slice none 0 0], kind := TK.struct [(0, 1, false), (1, 1, false), (2, 1, false), (3, 1, false), (4, 1, false), (5, 1, false)] } := by kernel_rfl
@[simp] theorem plain41 : plainKinds Tryz.prog 41 = some [TK.int IntKind.i64, TK.int IntKind.i64, TK.int IntKind.i64, TK.string, TK.int IntKind.i64, TK.slice 42] := by kernel_rfl
@[simp] theorem tinf42 : tinf Tryz.prog 42 = some { size := 6, bytes := 72, zero := some [Value.int IntKind.i64 (0), Value.int IntKind.i64 (0), Value.int IntKind.i64 (0), Value.string { data := { toList := [] } }, Value.int IntKind.i64 (0), Value.slice none 0 0], kind := TK.struct [(0, 1, false), (1, 1, false), (2, 1, false), (3, 1, false), (4, 1, false), (5, 1, false)] } := by kernel_rfl
@[simp] theorem plain42 : plainKinds Tryz.prog 42 = some [TK.int IntKind.i64, TK.int IntKind.i64, TK.int IntKind.i64, TK.string, TK.int IntKind.i64, TK.slice 42] := by kernel_rfl
@[simp] theorem tinf43 : tinf Tryz.prog 43 = some { size := 2, bytes := 40, zero := some [Value.slice none 0 0, Value.string { data := { toList := [] } }], kind := TK.struct [(0, 1, false), (1, 1, false)] } := by kernel_rfl
@[simp] theorem plain43 : plainKinds Tryz.prog 43 = some [TK.slice 3, TK.string] := by kernel_rfl
@[simp] theorem tinf44 : tinf Tryz.prog 44 = some { size := 2, bytes := 40, zero := some [Value.slice none 0 0, Value.string { data := { toList := [] } }], kind := TK.struct [(0, 1, false), (1, 1, false)] } := by kernel_rfl
@[simp] theorem plain44 : plainKinds Tryz.prog 44 = some [TK.slice 3, TK.string] := by kernel_rfl
@[simp] theorem tinf45 : tinf Tryz.prog 45 = some { size := 1, bytes := 8, zero := some [Value.nilFunc], kind := TK.other } := by kernel_rfl
@[simp] theorem tinf46 : tinf Tryz.prog 46 = some { size := 1, bytes := 24, zero := some [Value.slice none 0 0], kind := TK.slice 58 } := by kernel_rfl
@[simp] theorem tinf47 : tinf Tryz.prog 47 = some { size := 1, bytes := 8, zero := some [Value.nilFunc], kind := TK.other } := by kernel_rfl
@[simp] theorem tinf48 : tinf Tryz.prog 48 = some { size := 1, bytes := 8, zero := some [Value.nilFunc], kind := TK.other } := by kernel_rfl
@[simp] theorem tinf49 : tinf Tryz.prog 49 = some { size := 1, bytes := 8, zero := some [Value.nilFunc], kind := TK.other } := by kernel_rfl
@[simp] theorem tinf50 : tinf Tryz.prog 50 = some { size := 1, bytes := 24, zero := some [Value.slice none 0 0], kind := TK.slice 54 } := by kernel_rfl
@[simp] theorem tinf51 : tinf Tryz.prog 51 = some { size := 1, bytes := 8, zero := some [Value.nilFunc], kind := TK.other } := by kernel_rfl
@[simp] theorem tinf52 : tinf Tryz.prog 52 = some { size := 1, bytes := 8, zero := some [Value.nilFunc], kind := TK.other } := by kernel_rfl
@[simp] theorem tinf53 : tinf Tryz.prog 53 = some { size := 3, bytes := 32, zero := some [Value.int IntKind.i64 (0), Value.int IntKind.i64 (0), Value.string { data := { toList := [] } }], kind := TK.struct [(0, 1, false), (1, 1, false), (2, 1, false)] } := by kernel_rfl
@[simp] theorem plain53 : plainKinds Tryz.prog 53 = some [TK.int IntKind.i64, TK.int IntKind.i64, TK.string] := by kernel_rfl
@[simp] theorem tinf54 : tinf Tryz.prog 54 = some { size := 3, bytes := 32, zero := some [Value.int IntKind.i64 (0), Value.int IntKind.i64 (0), Value.string { data := { toList := [] } }], kind := TK.struct [(0, 1, false), (1, 1, false), (2, 1, false)] } := by kernel_rfl
@[simp] theorem plain54 : plainKinds Tryz.prog 54 = some [TK.int IntKind.i64, TK.int IntKind.i64, TK.string] := by kernel_rfl
@[simp] theorem tinf55 : tinf Tryz.prog 55 = some { size := 1, bytes := 8, zero := some [Value.nilFunc], kind := TK.other } := by kernel_rfl
@[simp] theorem tinf56 : tinf Tryz.prog 56 = some { size := 1, bytes := 8, zero := some [Value.nilFunc], kind := TK.other } := by kernel_rfl
@[simp] theorem tinf57 : tinf Tryz.prog 57 = some { size := 5, bytes := 48, zero := some [Value.int IntKind.i64 (0), Value.int IntKind.i64 (0), Value.int IntKind.i64 (0), Value.int IntKind.i64 (0), Value.string { data := { toList := [] } }], kind := TK.struct [(0, 1, false), (1, 1, false), (2, 3, true)] } := by kernel_rfl
@[simp] theorem tinf58 : tinf Tryz.prog 58 = some { size := 5, bytes := 48, zero := some [Value.int IntKind.i64 (0), Value.int IntKind.i64 (0), Value.int IntKind.i64 (0), Value.int IntKind.i64 (0), Value.string { data := { toList := [] } }], kind := TK.struct [(0, 1, false), (1, 1, false), (2, 3, true)] } := by kernel_rfl
@[simp] theorem tinf59 : tinf Tryz.prog 59 = some { size := 1, bytes := 8, zero := some [Value.nilFunc], kind := TK.other } := by kernel_rfl
@[simp] theorem tinf60 : tinf Tryz.prog 60 = some { size := 1, bytes := 8, zero := some [Value.nilFunc], kind := TK.other } := by kernel_rfl
@[simp] theorem tinf61 : tinf Tryz.prog 61 = some { size := 1, bytes := 8, zero := some [Value.nilFunc], kind := TK.other } := by kernel_rfl
@[simp] theorem tinf62 : tinf Tryz.prog 62 = some { size := 1, bytes := 8, zero := some [Value.nilFunc], kind := TK.other } := by kernel_rfl
@[simp] theorem tinf63 : tinf Tryz.prog 63 = some { size := 1, bytes := 8, zero := some [Value.nilFunc], kind := TK.other } := by kernel_rfl
@[simp] theorem tinf64 : tinf Tryz.prog 64 = some { size := 1, bytes := 8, zero := some [Value.nilFunc], kind := TK.other } := by kernel_rfl
@[simp] theorem tinf65 : tinf Tryz.prog 65 = some { size := 1, bytes := 8, zero := some [Value.nilFunc], kind := TK.other } := by kernel_rfl
@[simp] theorem tinf66 : tinf Tryz.prog 66 = some { size := 1, bytes := 8, zero := some [Value.nilFunc], kind := TK.other } := by kernel_rfl
@[simp] theorem tinf67 : tinf Tryz.prog 67 = some { size := 1, bytes := 8, zero := some [Value.int IntKind.i64 (0)], kind := TK.int IntKind.i64 } := by kernel_rfl
@[simp] theorem tinf68 : tinf Tryz.prog 68 = some { size := 1, bytes := 8, zero := some [Value.nilFunc], kind := TK.other } := by kernel_rfl
@[simp] theorem tinf69 : tinf Tryz.prog 69 = some { size := 1, bytes := 8, zero := some [Value.nilFunc], kind := TK.other } := by kernel_rfl
@[simp] theorem tinf70 : tinf Tryz.prog 70 = some { size := 1, bytes := 8, zero := some [Value.nilFunc], kind := TK.other } := by kernel_rfl
@[simp] theorem tinf71 : tinf Tryz.prog 71 = some { size := 1, bytes := 8, zero := some [Value.nilFunc], kind := TK.other } := by kernel_rfl
@[simp] theorem tinf72 : tinf Tryz.prog 72 = some { size := 1, bytes := 8, zero := some [Value.nilFunc], kind := TK.other } := by kernel_rfl
@[simp] theorem tinf73 : tinf Tryz.prog 73 = some { size := 1, bytes := 8, zero := some [Value.nilFunc], kind := TK.other } := by kernel_rfl
@[simp] theorem tinf74 : tinf Tryz.prog 74 = some { size := 1, bytes := 8, zero := some [Value.nilFunc], kind := TK.other } := by kernel_rfl
@[simp] theorem tinf75 : tinf Tryz.prog 75 = some { size := 1, bytes := 8, zero := some [Value.nilFunc], kind := TK.other } := by kernel_rfl
@[simp] theorem tinf76 : tinf Tryz.prog 76 = some { size := 1, bytes := 8, zero := some [Value.nilFunc], kind := TK.other } := by kernel_rfl
@[simp] theorem tinf77 : tinf Tryz.prog 77 = some { size := 1, bytes := 8, zero := some [Value.nilFunc], kind := TK.other } := by kernel_rfl
@[simp] theorem tinf78 : tinf Tryz.prog 78 = some { size := 1, bytes := 8, zero := some [Value.nilFunc], kind := TK.other } := by kernel_rfl
@[simp] theorem tinf80 : tinf Tryz.prog 80 = some { size := 1, bytes := 8, zero := some [Value.nilFunc], kind := TK.other } := by kernel_rfl
@[simp] theorem tinf81 : tinf Tryz.prog 81 = some { size := 1, bytes := 8, zero := some [Value.nilFunc], kind := TK.other } := by kernel_rfl
@[simp] theorem tinf82 : tinf Tryz.prog 82 = some { size := 1, bytes := 8, zero := some [Value.nilFunc], kind := TK.other } := by kernel_rfl
@[simp] theorem tinf83 : tinf Tryz.prog 83 = some { size := 1, bytes := 8, zero := some [Value.nilFunc], kind := TK.other } := by kernel_rfl
@[simp] theorem tinf84 : tinf Tryz.prog 84 = some { size := 1, bytes := 8, zero := some [Value.nilFunc], kind := TK.other } := by kernel_rfl
@[simp] theorem tinf85 : tinf Tryz.prog 85 = some { size := 1, bytes := 8, zero := some [Value.nilFunc], kind := TK.other } := by kernel_rfl
@[simp] theorem tinf86 : tinf Tryz.prog 86 = some { size := 1, bytes := 8, zero := some [Value.nilFunc], kind := TK.other } := by kernel_rfl
@[simp] theorem tinf87 : tinf Tryz.prog 87 = some { size := 1, bytes := 8, zero := some [Value.nilFunc], kind := TK.other } := by kernel_rfl
@[simp] theorem tinf88 : tinf Tryz.prog 88 = some { size := 1, bytes := 8, zero := some [Value.nilFunc], kind := TK.other } := by kernel_rfl
@[simp] theorem tinf89 : tinf Tryz.prog 89 = some { size := 1, bytes := 8, zero := some [Value.nilFunc], kind := TK.other } := by kernel_rfl
@[simp] theorem tinf90 : tinf Tryz.prog 90 = some { size := 1, bytes := 8, zero := some [Value.nilFunc], kind := TK.other } := by kernel_rfl
@[simp] theorem tinf91 : tinf Tryz.prog 91 = some { size := 1, bytes := 8, zero := some [Value.nilFunc], kind := TK.other } := by kernel_rfl
@[simp] theorem tinf92 : tinf Tryz.prog 92 = some { size := 1, bytes := 8, zero := some [Value.nilFunc], kind := TK.other } := by kernel_rfl
@[simp] theorem tinf93 : tinf Tryz.prog 93 = some { size := 1, bytes := 8, zero := some [Value.nilFunc], kind := TK.other } := by kernel_rfl
@[simp] theorem tinf94 : tinf Tryz.prog 94 = some { size := 1, bytes := 24, zero := some [Value.slice none 0 0], kind := TK.slice 5 } := by kernel_rfl
@[simp] theorem tinf95 : tinf Tryz.prog 95 = some { size := 1, bytes := 8, zero := some [Value.nilFunc], kind := TK.other } := by kernel_rfl
@[simp] theorem tinf97 : tinf Tryz.prog 97 = some { size := 1, bytes := 8, zero := some [Value.nilFunc], kind := TK.other } := by kernel_rfl
@[simp] theorem tinf98 : tinf Tryz.prog 98 = some { size := 1, bytes := 8, zero := some [Value.nilFunc], kind := TK.other } := by kernel_rfl
@[simp] theorem tinf99 : tinf Tryz.prog 99 = some { size := 1, bytes := 8, zero := some [Value.nilFunc], kind := TK.other } := by kernel_rfl
@[simp] theorem tinf101 : tinf Tryz.prog 101 = some { size := 1, bytes := 8, zero := some [Value.nilFunc], kind := TK.other } := by kernel_rfl
@[simp] theorem tinf102 : tinf Tryz.prog 102 = some { size := 1, bytes := 8, zero := some [Value.nilFunc], kind := TK.other } := by kernel_rfl
@[simp] theorem tinf103 : tinf Tryz.prog 103 = some { size := 1, bytes := 8, zero := some [Value.nilFunc], kind := TK.other } := by kernel_rfl
@[simp] theorem tinf104 : tinf Tryz.prog 104 = some { size := 1, bytes := 8, zero := some [Value.nilFunc], kind := TK.other } := by kernel_rfl
@[simp] theorem tinf105 : tinf Tryz.prog 105 = some { size := 1, bytes := 8, zero := some [Value.nilFunc], kind := TK.other } := by kernel_rfl
@[simp] theorem tinf106 : tinf Tryz.prog 106 = some { size := 1, bytes := 8, zero := some [Value.nilFunc], kind := TK.other } := by kernel_rfl
@[simp] theorem tinf107 : tinf Tryz.prog 107 = some { size := 1, bytes := 8, zero := some [Value.nilFunc], kind := TK.other } := by kernel_rfl
@[simp] theorem tinf108 : tinf Tryz.prog 108 = some { size := 1, bytes := 8, zero := some [Value.nilFunc], kind := TK.other } := by kernel_rfl
@[simp] theorem tinf109 : tinf Tryz.prog 109 = some { size := 1, bytes := 8, zero := some [Value.nilFunc], kind := TK.other } := by kernel_rfl
@[simp] theorem tinf110 : tinf Tryz.prog 110 = some { size := 1, bytes := 8, zero := some [Value.nilFunc], kind := TK.other } := by kernel_rfl
@[simp] theorem tinf111 : tinf Tryz.prog 111 = some { size := 1, bytes := 8, zero := some [Value.nilFunc], kind := TK.other } := by kernel_rfl
@[simp] theorem tinf112 : tinf Tryz.prog 112 = some { size := 1, bytes := 8, zero := some [Value.nilFunc], kind := TK.other } := by kernel_rfl
@[simp] theorem tinf113 : tinf Tryz.prog 113 = some { size := 1, bytes := 8, zero := some [Value.nilFunc], kind := TK.other } := by kernel_rfl
@[simp] theorem tinf114 : tinf Tryz.prog 114 = some { size := 1, bytes := 8, zero := some [Value.nilFunc], kind := TK.other } := by kernel_rfl
@[simp] theorem tinf115 : tinf Tryz.prog 115 = some { size := 1, bytes := 8, zero := some [Value.nilFunc], kind := TK.other } := by kernel_rfl
@[simp] theorem tinf116 : tinf Tryz.prog 116 = some { size := 1, bytes := 24, zero := some [Value.slice none 0 0], kind := TK.slice 2 } := by kernel_rfl
@[simp] theorem tinf117 : tinf Tryz.prog 117 = some { size := 1, bytes := 24, zero := some [Value.slice none 0 0], kind := TK.slice 9 } := by kernel_rfl
@[simp] theorem tinf119 : tinf Tryz.prog 119 = some { size := 1, bytes := 8, zero := some [Value.nilFunc], kind := TK.other } := by kernel_rfl
@[simp] theorem tinf120 : tinf Tryz.prog 120 = some { size := 1, bytes := 8, zero := some [Value.nilFunc], kind := TK.other } := by kernel_rfl
@[simp] theorem tinf121 : tinf Tryz.prog 121 = some { size := 1, bytes := 8, zero := some [Value.nilFunc], kind := TK.other } := by kernel_rfl
@[simp] theorem tinf122 : tinf Tryz.prog 122 = some { size := 1, bytes := 8, zero := some [Value.nilFunc], kind := TK.other } := by kernel_rfl
@[simp] theorem tinf124 : tinf Tryz.prog 124 = some { size := 1, bytes := 8, zero := some [Value.nilFunc], kind := TK.other } := by kernel_rfl
@[simp] theorem tinf125 : tinf Tryz.prog 125 = some { size := 1, bytes := 8, zero := some [Value.nilFunc], kind := TK.other } := by kernel_rfl
@[simp] theorem tinf126 : tinf Tryz.prog 126 = some { size := 1, bytes := 8, zero := some [Value.nilFunc], kind := TK.other } := by kernel_rfl
@[simp] theorem tinf127 : tinf Tryz.prog 127 = some { size := 1, bytes := 24, zero := some [Value.slice none 0 0], kind := TK.slice 128 } := by kernel_rfl
@[simp] theorem tinf128 : tinf Tryz.prog 128 = some { size := 1, bytes := 8, zero := some [Value.map none], kind := TK.other } := by kernel_rfl
@[simp] theorem tinf129 : tinf Tryz.prog 129 = some { size := 1, bytes := 8, zero := some [Value.nilFunc], kind := TK.other } := by kernel_rfl
@[simp] theorem tinf130 : tinf Tryz.prog 130 = some { size := 1, bytes := 8, zero := some [Value.nilFunc], kind := TK.other } := by kernel_rfl
@[simp] theorem tinf131 : tinf Tryz.prog 131 = some { size := 1, bytes := 8, zero := some [Value.nilFunc], kind := TK.other } := by kernel_rfl
@[simp] theorem tinf132 : tinf Tryz.prog 132 = some { size := 1, bytes := 8, zero := some [Value.nilFunc], kind := TK.other } := by kernel_rfl
@[simp] theorem tinf133 : tinf Tryz.prog 133 = some { size := 1, bytes := 8, zero := some [Value.nilFunc], kind := TK.other } := by kernel_rfl
@[simp] theorem tinf134 : tinf Tryz.prog 134 = some { size := 1, bytes := 8, zero := some [Value.nilFunc], kind := TK.other } := by kernel_rfl
@[simp] theorem tinf135 : tinf Tryz.prog 135 = some { size := 1, bytes := 8, zero := some [Value.nilFunc], kind := TK.other } := by kernel_rfl
@[simp] theorem tinf136 : tinf Tryz.prog 136 = some { size := 1, bytes := 8, zero := some [Value.nilFunc], kind := TK.other } := by kernel_rfl
@[simp] theorem tinf137 : tinf Tryz.prog 137 = some { size := 1, bytes := 8, zero := some [Value.nilFunc], kind := TK.other } := by kernel_rfl
@[simp] theorem tinf138 : tinf Tryz.prog 138 = some { size := 1, bytes := 8, zero := some [Value.nilFunc], kind := TK.other } := by kernel_rfl
@[simp] theorem tinf139 : tinf Tryz.prog 139 = some { size := 1, bytes := 8, zero := some [Value.nilFunc], kind := TK.other } := by kernel_rfl
@[simp] theorem tinf140 : tinf Tryz.prog 140 = some { size := 1, bytes := 24, zero := some [Value.slice none 0 0], kind := TK.slice 4 } := by kernel_rfl
@[simp] theorem tinf141 : tinf Tryz.prog 141 = some { size := 1, bytes := 8, zero := some [Value.nilFunc], kind := TK.other } := by kernel_rfl
@[simp] theorem tinf142 : tinf Tryz.prog 142 = some { size := 1, bytes := 8, zero := some [Value.nilFunc], kind := TK.other } := by kernel_rfl
@[simp] theorem tinf143 : tinf Tryz.prog 143 = some { size := 1, bytes := 8, zero := some [Value.int IntKind.u64 (0)], kind := TK.int IntKind.u64 } := by kernel_rfl
@[simp] theorem tinf144 : tinf Tryz.prog 144 = some { size := 1, bytes := 8, zero := some [Value.nilFunc], kind := TK.other } := by kernel_rfl
@[simp] theorem tinf145 : tinf Tryz.prog 145 = some { size := 1, bytes := 8, zero := some [Value.nilFunc], kind := TK.other } := by kernel_rfl
@[simp] theorem tinf146 : tinf Tryz.prog 146 = some { size := 1, bytes := 8, zero := some [Value.nilFunc], kind := TK.other } := by kernel_rfl
@[simp] theorem tinf147 : tinf Tryz.prog 147 = some { size := 1, bytes := 8, zero := some [Value.nilFunc], kind := TK.other } := by kernel_rfl
@[simp] theorem tinf148 : tinf Tryz.prog 148 = some { size := 1, bytes := 8, zero := some [Value.nilFunc], kind := TK.other } := by kernel_rfl
@[simp] theorem tinf149 : tinf Tryz.prog 149 = some { size := 4, bytes := 40, zero := some [Value.string { data := { toList := [] } }, Value.int IntKind.i64 (0), Value.int IntKind.i64 (0), Value.int IntKind.i64 (0)], kind := TK.struct [(0, 1, false), (1, 1, false), (2, 1, false), (3, 1, false)] } := by kernel_rfl
@[simp] theorem plain149 : plainKinds Tryz.prog 149 = some [TK.string, TK.int IntKind.i64, TK.int IntKind.i64, TK.int IntKind.i64] := by kernel_rfl
@[simp] theorem tinf150 : tinf Tryz.prog 150 = some { size := 4, bytes := 40, zero := some [Value.string { data := { toList := [] } }, Value.int IntKind.i64 (0), Value.int IntKind.i64 (0), Value.int IntKind.i64 (0)], kind := TK.struct [(0, 1, false), (1, 1, false), (2, 1, false), (3, 1, false)] } := by kernel_rfl
@[simp] theorem plain150 : plainKinds Tryz.prog 150 = some [TK.string, TK.int IntKind.i64, TK.int IntKind.i64, TK.int IntKind.i64] := by kernel_rfl
@[simp] theorem tinf152 : tinf Tryz.prog 152 = some { size := 1, bytes := 8, zero := some [Value.nilFunc], kind := TK.other } := by kernel_rfl
@[simp] theorem tinf153 : tinf Tryz.prog 153 = some { size := 1, bytes := 8, zero := some [Value.nilFunc], kind := TK.other } := by kernel_rfl
@[simp] theorem tinf154 : tinf Tryz.prog 154 = some { size := 1, bytes := 8, zero := some [Value.nilFunc], kind := TK.other } := by kernel_rfl
@[simp] theorem tinf155 : tinf Tryz.prog 155 = some { size := 1, bytes := 8, zero := some [Value.nilFunc], kind := TK.other } := by kernel_rfl
@[simp] theorem tinf156 : tinf Tryz.prog 156 = some { size := 1, bytes := 8, zero := some [Value.nilFunc], kind := TK.other } := by kernel_rfl
@[simp] theorem tinf157 : tinf Tryz.prog 157 = some { size := 1, bytes := 8, zero := some [Value.nilFunc], kind := TK.other } := by kernel_rfl
@[simp] theorem tinf158 : tinf Tryz.prog 158 = some { size := 1, bytes := 8, zero := some [Value.nilFunc], kind := TK.other } := by kernel_rfl
@[simp] theorem tinf159 : tinf Tryz.prog 159 = some { size := 1, bytes := 8, zero := some [Value.nilFunc], kind := TK.other } := by kernel_rfl
@[simp] theorem tinf160 : tinf Tryz.prog 160 = some { size := 1, bytes := 8, zero := some [Value.nilFunc], kind := TK.other } := by kernel_rfl
@[simp] theorem tinf161 : tinf Tryz.prog 161 = some { size := 1, bytes := 8, zero := some [Value.int IntKind.i64 (0)], kind := TK.int IntKind.i64 } := by kernel_rfl
@[simp] theorem tinf163 : tinf Tryz.prog 163 = some { size := 1, bytes := 8, zero := some [Value.nilFunc], kind := TK.other } := by kernel_rfl
@[simp] theorem tinf164 : tinf Tryz.prog 164 = some { size := 1, bytes := 8, zero := some [Value.nilFunc], kind := TK.other } := by kernel_rfl
@[simp] theorem tinf165 : tinf Tryz.prog 165 = some { size := 1, bytes := 8, zero := some [Value.nilFunc], kind := TK.other } := by kernel_rfl
@[simp] theorem tinf166 : tinf Tryz.prog 166 = some { size := 1, bytes := 8, zero := some [Value.nilFunc], kind := TK.other } := by kernel_rfl
@[simp] theorem tinf167 : tinf Tryz.prog 167 = some { size := 1, bytes := 8, zero := some [Value.nilFunc], kind := TK.other } := by kernel_rfl
@[simp] theorem tinf168 : tinf Tryz.prog 168 = some { size := 1, bytes := 4, zero := some [Value.int IntKind.u32 (0)], kind := TK.int IntKind.u32 } := by kernel_rfl
@[simp] theorem tinf169 : tinf Tryz.prog 169 = some { size := 1, bytes := 8, zero := some [Value.nilFunc], kind := TK.other } := by kernel_rfl
@[simp] theorem tinf170 : tinf Tryz.prog 170 = some { size := 1, bytes := 8, zero := some [Value.int IntKind.u64 (0)], kind := TK.int IntKind.u64 } := by kernel_rfl
@[simp] theorem tinf171 : tinf Tryz.prog 171 = some { size := 1, bytes := 8, zero := some [Value.nilFunc], kind := TK.other } := by kernel_rfl
@[simp] theorem tinf172 : tinf Tryz.prog 172 = some { size := 1, bytes := 8, zero := some [Value.nilFunc], kind := TK.other } := by kernel_rfl
@[simp] theorem tinf174 : tinf Tryz.prog 174 = some { size := 1, bytes := 8, zero := some [Value.nilFunc], kind := TK.other } := by kernel_rfl
@[simp] theorem tinf175 : tinf Tryz.prog 175 = some { size := 1, bytes := 8, zero := some [Value.nilFunc], kind := TK.other } := by kernel_rfl
@[simp] theorem tinf176 : tinf Tryz.prog 176 = some { size := 1, bytes := 8, zero := some [Value.nilFunc], kind := TK.other } := by kernel_rfl
@[simp] theorem tinf177 : tinf Tryz.prog 177 = some { size := 1, bytes := 8, zero := some [Value.nilFunc], kind := TK.other } := by kernel_rfl
@[simp] theorem tinf178 : tinf Tryz.prog 178 = some { size := 1, bytes := 8, zero := some [Value.nilFunc], kind := TK.other } := by kernel_rfl
@[simp] theorem tinf179 : tinf Tryz.prog 179 = some { size := 1, bytes := 8, zero := some [Value.nilFunc], kind := TK.other } := by kernel_rfl
@[simp] theorem tinf180 : tinf Tryz.prog 180 = some { size := 1, bytes := 8, zero := some [Value.nilFunc], kind := TK.other } := by kernel_rfl
@[simp] theorem tinf181 : tinf Tryz.prog 181 = some { size := 1, bytes := 8, zero := some [Value.nilFunc], kind := TK.other } := by kernel_rfl
@[simp] theorem tinf182 : tinf Tryz.prog 182 = some { size := 1, bytes := 8, zero := some [Value.int IntKind.u64 (0)], kind := TK.int IntKind.u64 } := by kernel_rfl
@[simp] theorem tinf183 : tinf Tryz.prog 183 = some { size := 1, bytes := 8, zero := some [Value.nilFunc], kind := TK.other } := by kernel_rfl
@[simp] theorem tinf184 : tinf Tryz.prog 184 = some { size := 1, bytes := 8, zero := some [Value.nilFunc], kind := TK.other } := by kernel_rfl
@[simp] theorem tinf185 : tinf Tryz.prog 185 = some { size := 1, bytes := 8, zero := some [Value.nilFunc], kind := TK.other } := by kernel_rfl
@[simp] theorem tinf186 : tinf Tryz.prog 186 = some { size := 1, bytes := 8, zero := some [Value.pointer none], kind := TK.other } := by kernel_rfl
@[simp] theorem tinf187 : tinf Tryz.prog 187 = some { size := 1, bytes := 8, zero := some [Value.nilFunc], kind := TK.other } := by kernel_rfl
@[simp] theorem tinf188 : tinf Tryz.prog 188 = some { size := 24, bytes := 24, zero := some [Value.int IntKind.u8 (0), Value.int IntKind.u8 (0), Value.int IntKind.u8 (0), Value.int IntKind.u8 (0), Value.int IntKind.u8 (0), Value.int IntKind.u8 (0), Value.int IntKind.u8 (0), Value.int IntKind.u8 (0), Value.int IntKind.u8 (0), Value.int IntKind.u8 (0), Value.int IntKind.u8 (0), Value.int IntKind.u8 (0), Value.int IntKind.u8 (0), Value.int IntKind.u8 (0), Value.int IntKind.u8 (0), Value.int IntKind.u8 (0), Value.int IntKind.u8 (0), Value.int IntKind.u8 (0), Value.int IntKind.u8 (0), Value.int IntKind.u8 (0), Value.int IntKind.u8 (0), Value.int IntKind.u8 (0), Value.int IntKind.u8 (0), Value.int IntKind.u8 (0)], kind := TK.array 24 5 } := by kernel_rfl
@[simp] theorem tinf189 : tinf Tryz.prog 189 = some { size := 1, bytes := 8, zero := some [Value.nilFunc], kind := TK.other } := by kernel_rfl
@[simp] theorem tinf191 : tinf Tryz.prog 191 = some { size := 1, bytes := 8, zero := some [Value.nilFunc], kind := TK.other } := by kernel_rfl
@[simp] theorem tinf192 : tinf Tryz.prog 192 = some { size := 116, bytes := 1160, zero := some [Value.string { data := { toList := [] } }, Value.int IntKind.i64 (0), Value.int IntKind.i64 (0), Value.int IntKind.i64 (0), Value.string { data := { toList := [] } }, Value.int IntKind.i64 (0), Value.int IntKind.i64 (0), Value.int IntKind.i64 (0), Value.string { data := { toList := [] } }, Value.int IntKind.i64 (0), Value.int IntKind.i64 (0), Value.int IntKind.i64 (0), Value.string { data := { toList := [] } }, Value.int IntKind.i64 (0), Value.int IntKind.i64 (0), Value.int IntKind.i64 (0), Value.string { data := { toList := [] } }, Value.int IntKind.i64 (0), Value.int IntKind.i64 (0), Value.int IntKind.i64 (0), Value.string { data := { toList := [] } }, Value.int IntKind.i64 (0), Value.int IntKind.i64 (0), Value.int IntKind.i64 (0), Value.string { data := { toList := [] } }, Value.int IntKind.i64 (0), Value.int IntKind.i64 (0), Value.int IntKind.i64 (0), Value.string { data := { toList := [] } }, Value.int IntKind.i64 (0), Value.int IntKind.i64 (0), Value.int IntKind.i64 (0), Value.string { data := { toList := [] } }, Value.int IntKind.i64 (0), Value.int IntKind.i64 (0), Value.int IntKind.i64 (0), Value.string { data := { toList := [] } }, Value.int IntKind.i64 (0), Value.int IntKind.i64 (0), Value.int IntKind.i64 (0), Value.string { data := { toList := [] } }, Value.int IntKind.i64 (0), Value.int IntKind.i64 (0), Value.int IntKind.i64 (0), Value.string { data := { toList := [] } }, Value.int IntKind.i64 (0), Value.int IntKind.i64 (0), Value.int IntKind.i64 (0), Value.string { data := { toList := [] } }, Value.int IntKind.i64 (0), Value.int IntKind.i64 (0), Value.int IntKind.i64 (0), Value.string { data := { toList := [] } }, Value.int IntKind.i64 (0), Value.int IntKind.i64 (0), Value.int IntKind.i64 (0), Value.string { data := { toList := [] } }, Value.int IntKind.i64 (0), Value.int IntKind.i64 (0), Value.int IntKind.i64 (0), Value.string { data := { toList := [] } }, Value.int IntKind.i64 (0), Value.int IntKind.i64 (0), Value.int IntKind.i64 (0), Value.string { data := { toList := [] } }, Value.int IntKind.i64 (0), Value.int IntKind.i64 (0), Value.int IntKind.i64 (0), Value.string { data := { toList := [] } }, Value.int IntKind.i64 (0), Value.int IntKind.i64 (0), Value.int IntKind.i64 (0), Value.string { data := { toList := [] } }, Value.int IntKind.i64 (0), Value.int IntKind.i64 (0), Value.int IntKind.i64 (0), Value.string { data := { toList := [] } }, Value.int IntKind.i64 (0), Value.int IntKind.i64 (0), Value.int IntKind.i64 (0), Value.string { data := { toList := [] } }, Value.int IntKind.i64 (0), Value.int IntKind.i64 (0), Value.int IntKind.i64 (0), Value.string { data := { toList := [] } }, Value.int IntKind.i64 (0), Value.int IntKind.i64 (0), Value.int IntKind.i64 (0), Value.string { data := { toList := [] } }, Value.int IntKind.i64 (0), Value.int IntKind.i64 (0), Value.int IntKind.i64 (0), Value.string { data := { toList := [] } }, Value.int IntKind.i64 (0), Value.int IntKind.i64 (0), Value.int IntKind.i64 (0), Value.string { data := { toList := [] } }, Value.int IntKind.i64 (0), Value.int IntKind.i64 (0), Value.int IntKind.i64 (0), Value.string { data := { toList := [] } }, Value.int IntKind.i64 (0), Value.int IntKind.i64 (0), Value.int IntKind.i64 (0), Value.string { data := { toList := [] } }, Value.int IntKind.i64 (0), Value.int IntKind.i64 (0), Value.int IntKind.i64 (0), Value.string { data := { toList := [] } }, Value.int IntKind.i64 (0), Value.int IntKind.i64 (0), Value.int IntKind.i64 (0), Value.string { data := { toList := [] } }, Value.int IntKind.i64 (0), Value.int IntKind.i64 (0), Value.int IntKind.i64 (0)], kind := TK.array 29 150 } := by kernel_rfl
@[simp] theorem tinf193 : tinf Tryz.prog 193 = some { size := 1, bytes := 8, zero := some [Value.nilFunc], kind := TK.other } := by kernel_rfl
@[simp] theorem tinf194 : tinf Tryz.prog 194 = some { size := 1, bytes := 8, zero := some [Value.nilFunc], kind := TK.other } := by kernel_rfl
@[simp] theorem tinf195 : tinf Tryz.prog 195 = some { size := 1, bytes := 8, zero := some [Value.nilFunc], kind := TK.other } := by kernel_rfl
@[simp] theorem tinf196 : tinf Tryz.prog 196 = some { size := 1, bytes := 8, zero := some [Value.nilFunc], kind := TK.other } := by kernel_rfl
@[simp] theorem tinf197 : tinf Tryz.prog 197 = some { size := 1, bytes := 8, zero := some [Value.nilFunc], kind := TK.other } := by kernel_rfl
@[simp] theorem tinf198 : tinf Tryz.prog 198 = some { size := 1, bytes := 8, zero := some [Value.pointer none], kind := TK.other } := by kernel_rfl
@[simp] theorem tinf200 : tinf Tryz.prog 200 = some { size := 1, bytes := 8, zero := some [Value.nilFunc], kind := TK.other } := by kernel_rfl
@[simp] theorem tinf201 : tinf Tryz.prog 201 = some { size := 1, bytes := 8, zero := some [Value.nilFunc], kind := TK.other } := by kernel_rfl
@[simp] theorem tinf202 : tinf Tryz.prog 202 = some { size := 20, bytes := 160, zero := some [Value.int IntKind.u64 (0), Value.int IntKind.u64 (0), Value.int IntKind.u64 (0), Value.int IntKind.u64 (0), Value.int IntKind.u64 (0), Value.int IntKind.u64 (0), Value.int IntKind.u64 (0), Value.int IntKind.u64 (0), Value.int IntKind.u64 (0), Value.int IntKind.u64 (0), Value.int IntKind.u64 (0), Value.int IntKind.u64 (0), Value.int IntKind.u64 (0), Value.int IntKind.u64 (0), Value.int IntKind.u64 (0), Value.int IntKind.u64 (0), Value.int IntKind.u64 (0), Value.int IntKind.u64 (0), Value.int IntKind.u64 (0), Value.int IntKind.u64 (0)], kind := TK.array 20 170 } := by kernel_rfl
@[simp] theorem tinf203 : tinf Tryz.prog 203 = some { size := 65, bytes := 65, zero := some [Value.int IntKind.u8 (0), Value.int IntKind.u8 (0), Value.int IntKind.u8 (0), Value.int IntKind.u8 (0), Value.int IntKind.u8 (0), Value.int IntKind.u8 (0), Value.int IntKind.u8 (0), Value.int IntKind.u8 (0), Value.int IntKind.u8 (0), Value.int IntKind.u8 (0), Value.int IntKind.u8 (0), Value.int IntKind.u8 (0), Value.int IntKind.u8 (0), Value.int IntKind.u8 (0), Value.int IntKind.u8 (0), Value.int IntKind.u8 (0), Value.int IntKind.u8 (0), Value.int IntKind.u8 (0), Value.int IntKind.u8 (0), Value.int IntKind.u8 (0), Value.int IntKind.u8 (0), Value.int IntKind.u8 (0), Value.int IntKind.u8 (0), Value.int IntKind.u8 (0), Value.int IntKind.u8 (0), Value.int IntKind.u8 (0), Value.int IntKind.u8 (0), Value.int IntKind.u8 (0), Value.int IntKind.u8 (0), Value.int IntKind.u8 (0), Value.int IntKind.u8 (0), Value.int IntKind.u8 (0), Value.int IntKind.u8 (0), Value.int IntKind.u8 (0), Value.int IntKind.u8 (0), Value.int IntKind.u8 (0), Value.int IntKind.u8 (0), Value.int IntKind.u8 (0), Value.int IntKind.u8 (0), Value.int IntKind.u8 (0), Value.int IntKind.u8 (0), Value.int IntKind.u8 (0), Value.int IntKind.u8 (0), Value.int IntKind.u8 (0), Value.int IntKind.u8 (0), Value.int IntKind.u8 (0), Value.int IntKind.u8 (0), Value.int IntKind.u8 (0), Value.int IntKind.u8 (0), Value.int IntKind.u8 (0), Value.int IntKind.u8 (0), Value.int IntKind.u8 (0), Value.int IntKind.u8 (0), Value.int IntKind.u8 (0), Value.int IntKind.u8 (0), Value.int IntKind.u8 (0), Value.int IntKind.u8 (0), Value.int IntKind.u8 (0), Value.int IntKind.u8 (0), Value.int IntKind.u8 (0), Value.int IntKind.u8 (0), Value.int IntKind.u8 (0), Value.int IntKind.u8 (0), Value.int IntKind.u8 (0), Value.int IntKind.u8 (0)], kind := TK.array 65 5 } := by kernel_rfl
@[simp] theorem tinf205 : tinf Tryz.prog 205 = some { size := 1, bytes := 8, zero := some [Value.nilFunc], kind := TK.other } := by kernel_rfl
@[simp] theorem tinf206 : tinf Tryz.prog 206 = some { size := 1, bytes := 8, zero := some [Value.nilFunc], kind := TK.other } := by kernel_rfl
@[simp] theorem tinf207 : tinf Tryz.prog 207 = some { size := 1, bytes := 8, zero := some [Value.nilFunc], kind := TK.other } := by kernel_rfl
@[simp] theorem tinf208 : tinf Tryz.prog 208 = some { size := 1, bytes := 8, zero := some [Value.nilFunc], kind := TK.other } := by kernel_rfl
@[simp] theorem tinf209 : tinf Tryz.prog 209 = some { size := 32, bytes := 32, zero := some [Value.int IntKind.u8 (0), Value.int IntKind.u8 (0), Value.int IntKind.u8 (0), Value.int IntKind.u8 (0), Value.int IntKind.u8 (0), Value.int IntKind.u8 (0), Value.int IntKind.u8 (0), Value.int IntKind.u8 (0), Value.int IntKind.u8 (0), Value.int IntKind.u8 (0), Value.int IntKind.u8 (0), Value.int IntKind.u8 (0), Value.int IntKind.u8 (0), Value.int IntKind.u8 (0), Value.int IntKind.u8 (0), Value.int IntKind.u8 (0), Value.int IntKind.u8 (0), Value.int IntKind.u8 (0), Value.int IntKind.u8 (0), Value.int IntKind.u8 (0), Value.int IntKind.u8 (0), Value.int IntKind.u8 (0), Value.int IntKind.u8 (0), Value.int IntKind.u8 (0), Value.int IntKind.u8 (0), Value.int IntKind.u8 (0), Value.int IntKind.u8 (0), Value.int IntKind.u8 (0), Value.int IntKind.u8 (0), Value.int IntKind.u8 (0), Value.int IntKind.u8 (0), Value.int IntKind.u8 (0)], kind := TK.array 32 5 } := by kernel_rfl
@[simp] theorem tinf210 : tinf Tryz.prog 210 = some { size := 64, bytes := 64, zero := some [Value.int IntKind.u8 (0), Value.int IntKind.u8 (0), Value.int IntKind.u8 (0), Value.int IntKind.u8 (0), Value.int IntKind.u8 (0), Value.int IntKind.u8 (0), Value.int IntKind.u8 (0), Value.int IntKind.u8 (0), Value.int IntKind.u8 (0), Value.int IntKind.u8 (0), Value.int IntKind.u8 (0), Value.int IntKind.u8 (0), Value.int IntKind.u8 (0), Value.int IntKind.u8 (0), Value.int IntKind.u8 (0), Value.int IntKind.u8 (0), Value.int IntKind.u8 (0), Value.int IntKind.u8 (0), Value.int IntKind.u8 (0), Value.int IntKind.u8 (0), Value.int IntKind.u8 (0), Value.int IntKind.u8 (0), Value.int IntKind.u8 (0), Value.int IntKind.u8 (0), Value.int IntKind.u8 (0), Value.int IntKind.u8 (0), Value.int IntKind.u8 (0), Value.int IntKind.u8 (0), Value.int IntKind.u8 (0), Value.int IntKind.u8 (0), Value.int IntKind.u8 (0), Value.int IntKind.u8 (0), Value.int IntKind.u8 (0), Value.int IntKind.u8 (0), Value.int IntKind.u8 (0), Value.int IntKind.u8 (0), Value.int IntKind.u8 (0), Value.int IntKind.u8 (0), Value.int IntKind.u8 (0), Value.int IntKind.u8 (0), Value.int IntKind.u8 (0), Value.int IntKind.u8 (0), Value.int IntKind.u8 (0), Value.int IntKind.u8 (0), Value.int IntKind.u8 (0), Value.int IntKind.u8 (0), Value.int IntKind.u8 (0), Value.int IntKind.u8 (0), Value.int IntKind.u8 (0), Value.int IntKind.u8 (0), Value.int IntKind.u8 (0), Value.int IntKind.u8 (0), Value.int IntKind.u8 (0), Value.int IntKind.u8 (0), Value.int IntKind.u8 (0), Value.int IntKind.u8 (0), Value.int IntKind.u8 (0), Value.int IntKind.u8 (0), Value.int IntKind.u8 (0), Value.int IntKind.u8 (0), Value.int IntKind.u8 (0), Value.int IntKind.u8 (0), Value.int IntKind.u8 (0), Value.int IntKind.u8 (0)], kind := TK.array 64 5 } := by kernel_rfl
@[simp] theorem tinf211 : tinf Tryz.prog 211 = some { size := 1, bytes := 8, zero := some [Value.nilFunc], kind := TK.other } := by kernel_rfl
@[simp] theorem tinf212 : tinf Tryz.prog 212 = some { size := 1, bytes := 8, zero := some [Value.nilFunc], kind := TK.other } := by kernel_rfl
@[simp] theorem tinf213 : tinf Tryz.prog 213 = some { size := 4, bytes := 40, zero := some [Value.pointer none, Value.pointer none, Value.pointer none, Value.string { data := { toList := [] } }], kind := TK.struct [(0, 1, false), (1, 1, false), (2, 1, false), (3, 1, false)] } := by kernel_rfl
@[simp] theorem tinf214 : tinf Tryz.prog 214 = some { size := 4, bytes := 40, zero := some [Value.pointer none, Value.pointer none, Value.pointer none, Value.string { data := { toList := [] } }], kind := TK.struct [(0, 1, false), (1, 1, false), (2, 1, false), (3, 1, false)] } := by kernel_rfl
@[simp] theorem tinf215 : tinf Tryz.prog 215 = some { size := 0, bytes := 0, zero := some [], kind := TK.array 0 16 } := by kernel_rfl
@[simp] theorem tinf216 : tinf Tryz.prog 216 = some { size := 0, bytes := 0, zero := some [], kind := TK.struct [(0, 0, true)] } := by kernel_rfl
@[simp] theorem tinf217 : tinf Tryz.prog 217 = some { size := 0, bytes := 0, zero := some [], kind := TK.struct [(0, 0, true)] } := by kernel_rfl
@[simp] theorem tinf218 : tinf Tryz.prog 218 = some { size := 1, bytes := 8, zero := some [Value.nilFunc], kind := TK.other } := by kernel_rfl
@[simp] theorem tinf219 : tinf Tryz.prog 219 = some { size := 1, bytes := 1, zero := some [Value.int IntKind.u8 (0)], kind := TK.int IntKind.u8 } := by kernel_rfl
@[simp] theorem tinf220 : tinf Tryz.prog 220 = some { size := 1, bytes := 1, zero := some [Value.int IntKind.u8 (0)], kind := TK.int IntKind.u8 } := by kernel_rfl
@[simp] theorem tinf221 : tinf Tryz.prog 221 = some { size := 1, bytes := 8, zero := some [Value.nilFunc], kind := TK.other } := by kernel_rfl
@[simp] theorem tinf222 : tinf Tryz.prog 222 = some { size := 1, bytes := 8, zero := some [Value.pointer none], kind := TK.other } := by kernel_rfl
@[simp] theorem tinf223 : tinf Tryz.prog 223 = some { size := 1, bytes := 4, zero := some [Value.int IntKind.i32 (0)], kind := TK.int IntKind.i32 } := by kernel_rfl
@[simp] theorem tinf224 : tinf Tryz.prog 224 = some { size := 1, bytes := 4, zero := some [Value.int IntKind.i32 (0)], kind := TK.int IntKind.i32 } := by kernel_rfl
@[simp] theorem tinf225 : tinf Tryz.prog 225 = some { size := 11, bytes := 48, zero := some [Value.int IntKind.u64 (0), Value.int IntKind.u64 (0), Value.int IntKind.u32 (0), Value.int IntKind.u8 (0), Value.int IntKind.u8 (0), Value.int IntKind.u8 (0), Value.int IntKind.u8 (0), Value.nilFunc, Value.pointer none, Value.int IntKind.i32 (0), Value.int IntKind.i32 (0)], kind := TK.struct [(0, 1, false), (1, 1, false), (2, 1, false), (3, 1, false), (4, 1, false), (5, 1, false), (6, 1, false), (7, 1, false), (8, 1, false), (9, 1, false), (10, 1, false)] } := by kernel_rfl
@[simp] theorem tinf226 : tinf Tryz.prog 226 = some { size := 11, bytes := 48, zero := some [Value.int IntKind.u64 (0), Value.int IntKind.u64 (0), Value.int IntKind.u32 (0), Value.int IntKind.u8 (0), Value.int IntKind.u8 (0), Value.int IntKind.u8 (0), Value.int IntKind.u8 (0), Value.nilFunc, Value.pointer none, Value.int IntKind.i32 (0), Value.int IntKind.i32 (0)], kind := TK.struct [(0, 1, false), (1, 1, false), (2, 1, false), (3, 1, false), (4, 1, false), (5, 1, false), (6, 1, false), (7, 1, false), (8, 1, false), (9, 1, false), (10, 1, false)] } := by kernel_rfl
@[simp] theorem tinf227 : tinf Tryz.prog 227 = some { size := 1, bytes := 8, zero := some [Value.pointer none], kind := TK.other } := by kernel_rfl
end Go.Proofs.Tryz
