import Derived.Test.YtlimkhfjidcelaaDoorAbB
import Derived.Test.YtlimkhfjidcelaaDoorProg
import Derived.Lib.IndexMore
import Derived.Shelf.Strings.Search3
set_option linter.all false
/- What is known of the program's types. Printed by types.py. -/
namespace Go.Proofs.Tryd
open Go.Ab
noncomputable def En : Env := ⟨Tryd.prog, fun _ => none⟩
@[simp] theorem En_P : En.P = Tryd.prog := id rfl
@[simp] theorem En_G (g : Nat) : En.G g = none := rfl
theorem mix : En.P.follows .mixedOrders = true := by kernel_rfl
@[simp] theorem tinf1 : tinf Tryd.prog 1 = some { size := 1, bytes := 8, zero := some [Value.nilFunc], kind := TK.other } := by kernel_rfl
@[simp] theorem tinf2 : tinf Tryd.prog 2 = some { size := 1, bytes := 8, zero := some [Value.int IntKind.i64 (0)], kind := TK.int IntKind.i64 } := by kernel_rfl
@[simp] theorem tinf3 : tinf Tryd.prog 3 = some { size := 1, bytes := 8, zero := some [Value.int IntKind.i64 (0)], kind := TK.int IntKind.i64 } := by kernel_rfl
@[simp] theorem tinf4 : tinf Tryd.prog 4 = some { size := 1, bytes := 1, zero := some [Value.bool false], kind := TK.bool } := by kernel_rfl
@[simp] theorem tinf5 : tinf Tryd.prog 5 = some { size := 1, bytes := 1, zero := some [Value.int IntKind.u8 (0)], kind := TK.int IntKind.u8 } := by kernel_rfl
@[simp] theorem tinf6 : tinf Tryd.prog 6 = some { size := 1, bytes := 1, zero := some [Value.int IntKind.u8 (0)], kind := TK.int IntKind.u8 } := by kernel_rfl
@[simp] theorem tinf7 : tinf Tryd.prog 7 = some { size := 4, bytes := 24, zero := some [Value.int IntKind.i64 (0), Value.int IntKind.i64 (0), Value.bool false, Value.int IntKind.u8 (0)], kind := TK.struct [(0, 1, false), (1, 1, false), (2, 1, false), (3, 1, false)] } := by kernel_rfl
@[simp] theorem plain7 : plainKinds Tryd.prog 7 = some [TK.int IntKind.i64, TK.int IntKind.i64, TK.bool, TK.int IntKind.u8] := by kernel_rfl
@[simp] theorem tinf8 : tinf Tryd.prog 8 = some { size := 4, bytes := 24, zero := some [Value.int IntKind.i64 (0), Value.int IntKind.i64 (0), Value.bool false, Value.int IntKind.u8 (0)], kind := TK.struct [(0, 1, false), (1, 1, false), (2, 1, false), (3, 1, false)] } := by kernel_rfl
@[simp] theorem plain8 : plainKinds Tryd.prog 8 = some [TK.int IntKind.i64, TK.int IntKind.i64, TK.bool, TK.int IntKind.u8] := by kernel_rfl
@[simp] theorem tinf9 : tinf Tryd.prog 9 = some { size := 1, bytes := 16, zero := some [Value.string { data := { toList := [] } }], kind := TK.string } := by kernel_rfl
@[simp] theorem tinf10 : tinf Tryd.prog 10 = some { size := 1, bytes := 16, zero := some [Value.string { data := { toList := [] } }], kind := TK.string } := by kernel_rfl
@[simp] theorem tinf11 : tinf Tryd.prog 11 = some { size := 1, bytes := 16, zero := some [Value.string { data := { toList := [] } }], kind := TK.string } := by kernel_rfl
@[simp] theorem tinf12 : tinf Tryd.prog 12 = some { size := 1, bytes := 8, zero := some [Value.int IntKind.u64 (0)], kind := TK.int IntKind.u64 } := by kernel_rfl
@[simp] theorem tinf13 : tinf Tryd.prog 13 = some { size := 2, bytes := 24, zero := some [Value.string { data := { toList := [] } }, Value.int IntKind.u64 (0)], kind := TK.struct [(0, 1, false), (1, 1, false)] } := by kernel_rfl
@[simp] theorem tinf14 : tinf Tryd.prog 14 = some { size := 2, bytes := 24, zero := some [Value.string { data := { toList := [] } }, Value.int IntKind.u64 (0)], kind := TK.struct [(0, 1, false), (1, 1, false)] } := by kernel_rfl
@[simp] theorem tinf15 : tinf Tryd.prog 15 = some { size := 1, bytes := 8, zero := some [Value.pointer none], kind := TK.other } := by kernel_rfl
@[simp] theorem tinf16 : tinf Tryd.prog 16 = some { size := 1, bytes := 8, zero := some [Value.pointer none], kind := TK.other } := by kernel_rfl
@[simp] theorem tinf17 : tinf Tryd.prog 17 = some { size := 1, bytes := 8, zero := some [Value.pointer none], kind := TK.other } := by kernel_rfl
@[simp] theorem tinf18 : tinf Tryd.prog 18 = some { size := 1, bytes := 8, zero := some [Value.pointer none], kind := TK.struct [(0, 1, false)] } := by kernel_rfl
@[simp] theorem tinf19 : tinf Tryd.prog 19 = some { size := 1, bytes := 8, zero := some [Value.pointer none], kind := TK.struct [(0, 1, false)] } := by kernel_rfl
@[simp] theorem tinf20 : tinf Tryd.prog 20 = some { size := 1, bytes := 16, zero := some [Value.nilIface], kind := TK.other } := by kernel_rfl
@[simp] theorem tinf21 : tinf Tryd.prog 21 = some { size := 1, bytes := 4, zero := some [Value.int IntKind.i32 (0)], kind := TK.int IntKind.i32 } := by kernel_rfl
@[simp] theorem tinf22 : tinf Tryd.prog 22 = some { size := 1, bytes := 24, zero := some [Value.slice none 0 0], kind := TK.slice 80 } := by kernel_rfl
@[simp] theorem tinf23 : tinf Tryd.prog 23 = some { size := 1, bytes := 24, zero := some [Value.slice none 0 0], kind := TK.slice 29 } := by kernel_rfl
@[simp] theorem tinf24 : tinf Tryd.prog 24 = some { size := 3, bytes := 56, zero := some [Value.string { data := { toList := [] } }, Value.slice none 0 0, Value.string { data := { toList := [] } }], kind := TK.struct [(0, 1, false), (1, 1, false), (2, 1, false)] } := by kernel_rfl
@[simp] theorem plain24 : plainKinds Tryd.prog 24 = some [TK.string, TK.slice 29, TK.string] := by kernel_rfl
@[simp] theorem tinf25 : tinf Tryd.prog 25 = some { size := 3, bytes := 56, zero := some [Value.string { data := { toList := [] } }, Value.slice none 0 0, Value.string { data := { toList := [] } }], kind := TK.struct [(0, 1, false), (1, 1, false), (2, 1, false)] } := by kernel_rfl
@[simp] theorem plain25 : plainKinds Tryd.prog 25 = some [TK.string, TK.slice 29, TK.string] := by kernel_rfl
@[simp] theorem tinf26 : tinf Tryd.prog 26 = some { size := 1, bytes := 24, zero := some [Value.slice none 0 0], kind := TK.slice 83 } := by kernel_rfl
@[simp] theorem tinf27 : tinf Tryd.prog 27 = some { size := 1, bytes := 24, zero := some [Value.slice none 0 0], kind := TK.slice 31 } := by kernel_rfl
@[simp] theorem tinf28 : tinf Tryd.prog 28 = some { size := 13, bytes := 216, zero := some [Value.int IntKind.i64 (0), Value.bool false, Value.bool false, Value.bool false, Value.slice none 0 0, Value.string { data := { toList := [] } }, Value.slice none 0 0, Value.string { data := { toList := [] } }, Value.slice none 0 0, Value.slice none 0 0, Value.slice none 0 0, Value.slice none 0 0, Value.slice none 0 0], kind := TK.struct [(0, 1, false), (1, 1, false), (2, 1, false), (3, 1, false), (4, 1, false), (5, 3, true), (8, 1, false), (9, 1, false), (10, 1, false), (11, 1, false), (12, 1, false)] } := by kernel_rfl
@[simp] theorem tinf29 : tinf Tryd.prog 29 = some { size := 13, bytes := 216, zero := some [Value.int IntKind.i64 (0), Value.bool false, Value.bool false, Value.bool false, Value.slice none 0 0, Value.string { data := { toList := [] } }, Value.slice none 0 0, Value.string { data := { toList := [] } }, Value.slice none 0 0, Value.slice none 0 0, Value.slice none 0 0, Value.slice none 0 0, Value.slice none 0 0], kind := TK.struct [(0, 1, false), (1, 1, false), (2, 1, false), (3, 1, false), (4, 1, false), (5, 3, true), (8, 1, false), (9, 1, false), (10, 1, false), (11, 1, false), (12, 1, false)] } := by kernel_rfl
@[simp] theorem tinf30 : tinf Tryd.prog 30 = some { size := 6, bytes := 80, zero := some [Value.int IntKind.i64 (0), Value.int IntKind.i64 (0), Value.int IntKind.i64 (0), Value.string { data := { toList := [] } }, Value.string { data := { toList := [] } }, Value.slice none 0 0], kind := TK.struct [(0, 1, false), (1, 1, false), (2, 1, false), (3, 1, false), (4, 1, false), (5, 1, false)] } := by kernel_rfl
@[simp] theorem plain30 : plainKinds Tryd.prog 30 = some [TK.int IntKind.i64, TK.int IntKind.i64, TK.int IntKind.i64, TK.string, TK.string, TK.slice 31] := by kernel_rfl
@[simp] theorem tinf31 : tinf Tryd.prog 31 = some { size := 6, bytes := 80, zero := some [Value.int IntKind.i64 (0), Value.int IntKind.i64 (0), Value.int IntKind.i64 (0), Value.string { data := { toList := [] } }, Value.string { data := { toList := [] } }, Value.slice none 0 0], kind := TK.struct [(0, 1, false), (1, 1, false), (2, 1, false), (3, 1, false), (4, 1, false), (5, 1, false)] } := by kernel_rfl
@[simp] theorem plain31 : plainKinds Tryd.prog 31 = some [TK.int IntKind.i64, TK.int IntKind.i64, TK.int IntKind.i64, TK.string, TK.string, TK.slice 31] := by kernel_rfl
@[simp] theorem tinf32 : tinf Tryd.prog 32 = some { size := 1, bytes := 8, zero := some [Value.nilFunc], kind := TK.other } := by kernel_rfl
@[simp] theorem tinf33 : tinf Tryd.prog 33 = some { size := 1, bytes := 8, zero := some [Value.nilFunc], kind := TK.other } := by kernel_rfl
@[simp] theorem tinf34 : tinf Tryd.prog 34 = some { size := 1, bytes := 8, zero := some [Value.nilFunc], kind := TK.other } := by kernel_rfl
@[simp] theorem tinf35 : tinf Tryd.prog 35 = some { size := 1, bytes := 8, zero := some [Value.nilFunc], kind := TK.other } := by kernel_rfl
@[simp] theorem tinf36 : tinf Tryd.prog 36 = some { size := 1, bytes := 8, zero := some [Value.nilFunc], kind := TK.other } := by kernel_rfl
@[simp] theorem tinf37 : tinf Tryd.prog 37 = some { size := 1, bytes := 24, zero := some [Value.slice none 0 0], kind := TK.slice 3 } := by kernel_rfl
@[simp] theorem tinf38 : tinf Tryd.prog 38 = some { size := 1, bytes := 24, zero := some [Value.slice none 0 0], kind := TK.slice 64 } := by kernel_rfl
@[simp] theorem tinf39 : tinf Tryd.prog 39 = some { size := 1, bytes := 8, zero := some [Value.pointer none], kind := TK.other } := by kernel_rfl
@[simp] theorem tinf40 : tinf Tryd.prog 40 = some { size := 2, bytes := 32, zero := some [Value.slice none 0 0, Value.int IntKind.i64 (0)], kind := TK.struct [(0, 1, false), (1, 1, false)] } := by kernel_rfl
@[simp] theorem plain40 : plainKinds Tryd.prog 40 = some [TK.slice 3, TK.int IntKind.i64] := by kernel_rfl
@[simp] theorem tinf41 : tinf Tryd.prog 41 = some { size := 2, bytes := 32, zero := some [Value.slice none 0 0, Value.int IntKind.i64 (0)], kind := TK.struct [(0, 1, false), (1, 1, false)] } := by kernel_rfl
@[simp] theorem plain41 : plainKinds Tryd.prog 41 = some [TK.slice 3, TK.int IntKind.i64] := by kernel_rfl
@[simp] theorem tinf42 : tinf Tryd.prog 42 = some { size := 1, bytes := 24, zero := some [Value.slice none 0 0], kind := TK.slice 56 } := by kernel_rfl
@[simp] theorem tinf43 : tinf Tryd.prog 43 = some { size := 1, bytes := 24, zero := some [Value.slice none 0 0], kind := TK.struct [(0, 1, false)] } := by kernel_rfl
@[simp] theorem plain43 : plainKinds Tryd.prog 43 = some [TK.slice 56] := by kernel_rfl
@[simp] theorem tinf44 : tinf Tryd.prog 44 = some { size := 1, bytes := 24, zero := some [Value.slice none 0 0], kind := TK.struct [(0, 1, false)] } := by kernel_rfl
@[simp] theorem plain44 : plainKinds Tryd.prog 44 = some [TK.slice 56] := by kernel_rfl
@[simp] theorem tinf45 : tinf Tryd.prog 45 = some { size := 1, bytes := 8, zero := some [Value.nilFunc], kind := TK.other } := by kernel_rfl
@[simp] theorem tinf46 : tinf Tryd.prog 46 = some { size := 1, bytes := 8, zero := some [Value.nilFunc], kind := TK.other } := by kernel_rfl
@[simp] theorem tinf47 : tinf Tryd.prog 47 = some { size := 1, bytes := 24, zero := some [Value.slice none 0 0], kind := TK.slice 49 } := by kernel_rfl
@[simp] theorem tinf48 : tinf Tryd.prog 48 = some { size := 6, bytes := 72, zero := some [Value.int IntKind.i64 (0), Value.int IntKind.i64 (0), Value.int IntKind.i64 (0), Value.string { data := { toList := [] } }, Value.int IntKind.i64 (0), Value.slice none 0 0], kind := TK.struct [(0, 1, false), (1, 1, false), (2, 1, false), (3, 1, false), (4, 1, false), (5, 1, false)] } := by kernel_rfl
@[simp] theorem plain48 : plainKinds Tryd.prog 48 = some [TK.int IntKind.i64, TK.int IntKind.i64, TK.int IntKind.i64, TK.string, TK.int IntKind.i64, TK.slice 49] := by kernel_rfl
@[simp] theorem tinf49 : tinf Tryd.prog 49 = some { size := 6, bytes := 72, zero := some [Value.int IntKind.i64 (0), Value.int IntKind.i64 (0), Value.int IntKind.i64 (0), Value.string { data := { toList := [] } }, Value.int IntKind.i64 (0), Value.slice none 0 0], kind := TK.struct [(0, 1, false), (1, 1, false), (2, 1, false), (3, 1, false), (4, 1, false), (5, 1, false)] } := by kernel_rfl
@[simp] theorem plain49 : plainKinds Tryd.prog 49 = some [TK.int IntKind.i64, TK.int IntKind.i64, TK.int IntKind.i64, TK.string, TK.int IntKind.i64, TK.slice 49] := by kernel_rfl
@[simp] theorem tinf50 : tinf Tryd.prog 50 = some { size := 1, bytes := 8, zero := some [Value.int IntKind.i64 (0)], kind := TK.int IntKind.i64 } := by kernel_rfl
@[simp] theorem tinf52 : tinf Tryd.prog 52 = some { size := 1, bytes := 8, zero := some [Value.nilFunc], kind := TK.other } := by kernel_rfl
@[simp] theorem tinf53 : tinf Tryd.prog 53 = some { size := 1, bytes := 24, zero := some [Value.slice none 0 0], kind := TK.slice 37 } := by kernel_rfl
@[simp] theorem tinf54 : tinf Tryd.prog 54 = some { size := 1, bytes := 24, zero := some [Value.slice none 0 0], kind := TK.slice 94 } := by kernel_rfl
@[simp] theorem tinf55 : tinf Tryd.prog 55 = some { size := 6, bytes := 136, zero := some [Value.string { data := { toList := [] } }, Value.slice none 0 0, Value.slice none 0 0, Value.slice none 0 0, Value.slice none 0 0, Value.slice none 0 0], kind := TK.struct [(0, 1, false), (1, 1, false), (2, 1, false), (3, 1, false), (4, 1, false), (5, 1, false)] } := by kernel_rfl
@[simp] theorem plain55 : plainKinds Tryd.prog 55 = some [TK.string, TK.slice 64, TK.slice 3, TK.slice 37, TK.slice 94, TK.slice 49] := by kernel_rfl
@[simp] theorem tinf56 : tinf Tryd.prog 56 = some { size := 6, bytes := 136, zero := some [Value.string { data := { toList := [] } }, Value.slice none 0 0, Value.slice none 0 0, Value.slice none 0 0, Value.slice none 0 0, Value.slice none 0 0], kind := TK.struct [(0, 1, false), (1, 1, false), (2, 1, false), (3, 1, false), (4, 1, false), (5, 1, false)] } := by kernel_rfl
@[simp] theorem plain56 : plainKinds Tryd.prog 56 = some [TK.string, TK.slice 64, TK.slice 3, TK.slice 37, TK.slice 94, TK.slice 49] := by kernel_rfl
@[simp] theorem tinf57 : tinf Tryd.prog 57 = some { size := 1, bytes := 8, zero := some [Value.nilFunc], kind := TK.other } := by kernel_rfl
@[simp] theorem tinf58 : tinf Tryd.prog 58 = some { size := 1, bytes := 8, zero := some [Value.nilFunc], kind := TK.other } := by kernel_rfl
@[simp] theorem tinf59 : tinf Tryd.prog 59 = some { size := 1, bytes := 8, zero := some [Value.nilFunc], kind := TK.other } := by kernel_rfl
@[simp] theorem tinf60 : tinf Tryd.prog 60 = some { size := 1, bytes := 8, zero := some [Value.nilFunc], kind := TK.other } := by kernel_rfl
@[simp] theorem tinf61 : tinf Tryd.prog 61 = some { size := 1, bytes := 8, zero := some [Value.nilFunc], kind := TK.other } := by kernel_rfl
@[simp] theorem tinf62 : tinf Tryd.prog 62 = some { size := 1, bytes := 24, zero := some [Value.slice none 0 0], kind := TK.slice 9 } := by kernel_rfl
@[simp] theorem tinf63 : tinf Tryd.prog 63 = some { size := 3, bytes := 32, zero := some [Value.string { data := { toList := [] } }, Value.int IntKind.i64 (0), Value.bool false], kind := TK.struct [(0, 1, false), (1, 1, false), (2, 1, false)] } := by kernel_rfl
@[simp] theorem plain63 : plainKinds Tryd.prog 63 = some [TK.string, TK.int IntKind.i64, TK.bool] := by kernel_rfl
@[simp] theorem tinf64 : tinf Tryd.prog 64 = some { size := 3, bytes := 32, zero := some [Value.string { data := { toList := [] } }, Value.int IntKind.i64 (0), Value.bool false], kind := TK.struct [(0, 1, false), (1, 1, false), (2, 1, false)] } := by kernel_rfl
@[simp] theorem plain64 : plainKinds Tryd.prog 64 = some [TK.string, TK.int IntKind.i64, TK.bool] := by kernel_rfl
@[simp] theorem tinf65 : tinf Tryd.prog 65 = some { size := 1, bytes := 8, zero := some [Value.nilFunc], kind := TK.other } := by kernel_rfl
@[simp] theorem tinf66 : tinf Tryd.prog 66 = some { size := 1, bytes := 8, zero := some [Value.nilFunc], kind := TK.other } := by kernel_rfl
@[simp] theorem tinf67 : tinf Tryd.prog 67 = some { size := 1, bytes := 8, zero := some [Value.nilFunc], kind := TK.other } := by kernel_rfl
@[simp] theorem tinf68 : tinf Tryd.prog 68 = some { size := 3, bytes := 32, zero := some [Value.int IntKind.i64 (0), Value.int IntKind.i64 (0), Value.string { data := { toList := [] } }], kind := TK.struct [(0, 1, false), (1, 1, false), (2, 1, false)] } := by kernel_rfl
@[simp] theorem plain68 : plainKinds Tryd.prog 68 = some [TK.int IntKind.i64, TK.int IntKind.i64, TK.string] := by kernel_rfl
@[simp] theorem tinf69 : tinf Tryd.prog 69 = some { size := 3, bytes := 32, zero := some [Value.int IntKind.i64 (0), Value.int IntKind.i64 (0), Value.string { data := { toList := [] } }], kind := TK.struct [(0, 1, false), (1, 1, false), (2, 1, false)] } := by kernel_rfl
@[simp] theorem plain69 : plainKinds Tryd.prog 69 = some [TK.int IntKind.i64, TK.int IntKind.i64, TK.string] := by kernel_rfl
@[simp] theorem tinf71 : tinf Tryd.prog 71 = some { size := 1, bytes := 8, zero := some [Value.nilFunc], kind := TK.other } := by kernel_rfl
@[simp] theorem tinf72 : tinf Tryd.prog 72 = some { size := 1, bytes := 8, zero := some [Value.nilFunc], kind := TK.other } := by kernel_rfl
@[simp] theorem tinf73 : tinf Tryd.prog 73 = some { size := 1, bytes := 8, zero := some [Value.nilFunc], kind := TK.other } := by kernel_rfl
@[simp] theorem tinf74 : tinf Tryd.prog 74 = some { size := 1, bytes := 8, zero := some [Value.nilFunc], kind := TK.other } := by kernel_rfl
@[simp] theorem tinf75 : tinf Tryd.prog 75 = some { size := 1, bytes := 8, zero := some [Value.nilFunc], kind := TK.other } := by kernel_rfl
@[simp] theorem tinf76 : tinf Tryd.prog 76 = some { size := 1, bytes := 8, zero := some [Value.nilFunc], kind := TK.other } := by kernel_rfl
@[simp] theorem tinf77 : tinf Tryd.prog 77 = some { size := 1, bytes := 8, zero := some [Value.nilFunc], kind := TK.other } := by kernel_rfl
@[simp] theorem tinf78 : tinf Tryd.prog 78 = some { size := 1, bytes := 8, zero := some [Value.nilFunc], kind := TK.other } := by kernel_rfl
@[simp] theorem tinf79 : tinf Tryd.prog 79 = some { size := 7, bytes := 96, zero := some [Value.int IntKind.i64 (0), Value.int IntKind.i64 (0), Value.int IntKind.i64 (0), Value.string { data := { toList := [] } }, Value.string { data := { toList := [] } }, Value.slice none 0 0, Value.string { data := { toList := [] } }], kind := TK.struct [(0, 6, true), (6, 1, false)] } := by kernel_rfl
@[simp] theorem tinf80 : tinf Tryd.prog 80 = some { size := 7, bytes := 96, zero := some [Value.int IntKind.i64 (0), Value.int IntKind.i64 (0), Value.int IntKind.i64 (0), Value.string { data := { toList := [] } }, Value.string { data := { toList := [] } }, Value.slice none 0 0, Value.string { data := { toList := [] } }], kind := TK.struct [(0, 6, true), (6, 1, false)] } := by kernel_rfl
@[simp] theorem tinf81 : tinf Tryd.prog 81 = some { size := 1, bytes := 8, zero := some [Value.nilFunc], kind := TK.other } := by kernel_rfl
@[simp] theorem tinf82 : tinf Tryd.prog 82 = some { size := 5, bytes := 88, zero := some [Value.int IntKind.i64 (0), Value.string { data := { toList := [] } }, Value.slice none 0 0, Value.string { data := { toList := [] } }, Value.slice none 0 0], kind := TK.struct [(0, 1, false), (1, 3, true), (4, 1, false)] } := by kernel_rfl
@[simp] theorem tinf83 : tinf Tryd.prog 83 = some { size := 5, bytes := 88, zero := some [Value.int IntKind.i64 (0), Value.string { data := { toList := [] } }, Value.slice none 0 0, Value.string { data := { toList := [] } }, Value.slice none 0 0], kind := TK.struct [(0, 1, false), (1, 3, true), (4, 1, false)] } := by kernel_rfl
@[simp] theorem tinf84 : tinf Tryd.prog 84 = some { size := 1, bytes := 8, zero := some [Value.nilFunc], kind := TK.other } := by kernel_rfl
@[simp] theorem tinf85 : tinf Tryd.prog 85 = some { size := 1, bytes := 8, zero := some [Value.nilFunc], kind := TK.other } := by kernel_rfl
@[simp] theorem tinf86 : tinf Tryd.prog 86 = some { size := 1, bytes := 8, zero := some [Value.nilFunc], kind := TK.other } := by kernel_rfl
@[simp] theorem tinf87 : tinf Tryd.prog 87 = some { size := 1, bytes := 8, zero := some [Value.nilFunc], kind := TK.other } := by kernel_rfl
@[simp] theorem tinf88 : tinf Tryd.prog 88 = some { size := 1, bytes := 8, zero := some [Value.nilFunc], kind := TK.other } := by kernel_rfl
@[simp] theorem tinf89 : tinf Tryd.prog 89 = some { size := 1, bytes := 8, zero := some [Value.nilFunc], kind := TK.other } := by kernel_rfl
@[simp] theorem tinf90 : tinf Tryd.prog 90 = some { size := 1, bytes := 8, zero := some [Value.nilFunc], kind := TK.other } := by kernel_rfl
@[simp] theorem tinf91 : tinf Tryd.prog 91 = some { size := 1, bytes := 8, zero := some [Value.nilFunc], kind := TK.other } := by kernel_rfl
@[simp] theorem tinf92 : tinf Tryd.prog 92 = some { size := 1, bytes := 8, zero := some [Value.nilFunc], kind := TK.other } := by kernel_rfl
@[simp] theorem tinf93 : tinf Tryd.prog 93 = some { size := 2, bytes := 40, zero := some [Value.slice none 0 0, Value.string { data := { toList := [] } }], kind := TK.struct [(0, 1, false), (1, 1, false)] } := by kernel_rfl
@[simp] theorem plain93 : plainKinds Tryd.prog 93 = some [TK.slice 3, TK.string] := by kernel_rfl
@[simp] theorem tinf94 : tinf Tryd.prog 94 = some { size := 2, bytes := 40, zero := some [Value.slice none 0 0, Value.string { data := { toList := [] } }], kind := TK.struct [(0, 1, false), (1, 1, false)] } := by kernel_rfl
@[simp] theorem plain94 : plainKinds Tryd.prog 94 = some [TK.slice 3, TK.string] := by kernel_rfl
@[simp] theorem tinf95 : tinf Tryd.prog 95 = some { size := 1, bytes := 8, zero := some [Value.nilFunc], kind := TK.other } := by kernel_rfl
@[simp] theorem tinf96 : tinf Tryd.prog 96 = some { size := 1, bytes := 24, zero := some [Value.slice none 0 0], kind := TK.slice 99 } := by kernel_rfl
@[simp] theorem tinf97 : tinf Tryd.prog 97 = some { size := 1, bytes := 24, zero := some [Value.slice none 0 0], kind := TK.slice 99 } := by kernel_rfl
@[simp] theorem tinf98 : tinf Tryd.prog 98 = some { size := 2, bytes := 32, zero := some [Value.string { data := { toList := [] } }, Value.string { data := { toList := [] } }], kind := TK.struct [(0, 1, false), (1, 1, false)] } := by kernel_rfl
@[simp] theorem plain98 : plainKinds Tryd.prog 98 = some [TK.string, TK.string] := by kernel_rfl
@[simp] theorem tinf99 : tinf Tryd.prog 99 = some { size := 2, bytes := 32, zero := some [Value.string { data := { toList := [] } }, Value.string { data := { toList := [] } }], kind := TK.struct [(0, 1, false), (1, 1, false)] } := by kernel_rfl
@[simp] theorem plain99 : plainKinds Tryd.prog 99 = some [TK.string, TK.string] := by kernel_rfl
@[simp] theorem tinf100 : tinf Tryd.prog 100 = some { size := 1, bytes := 8, zero := some [Value.nilFunc], kind := TK.other } := by kernel_rfl
@[simp] theorem tinf102 : tinf Tryd.prog 102 = some { size := 1, bytes := 8, zero := some [Value.nilFunc], kind := TK.other } := by kernel_rfl
@[simp] theorem tinf103 : tinf Tryd.prog 103 = some { size := 1, bytes := 24, zero := some [Value.slice none 0 0], kind := TK.slice 137 } := by kernel_rfl
@[simp] theorem tinf105 : tinf Tryd.prog 105 = some { size := 1, bytes := 8, zero := some [Value.nilFunc], kind := TK.other } := by kernel_rfl
@[simp] theorem tinf106 : tinf Tryd.prog 106 = some { size := 1, bytes := 8, zero := some [Value.nilFunc], kind := TK.other } := by kernel_rfl
@[simp] theorem tinf107 : tinf Tryd.prog 107 = some { size := 1, bytes := 8, zero := some [Value.nilFunc], kind := TK.other } := by kernel_rfl
@[simp] theorem tinf108 : tinf Tryd.prog 108 = some { size := 1, bytes := 8, zero := some [Value.nilFunc], kind := TK.other } := by kernel_rfl
@[simp] theorem tinf109 : tinf Tryd.prog 109 = some { size := 1, bytes := 8, zero := some [Value.nilFunc], kind := TK.other } := by kernel_rfl
@[simp] theorem tinf110 : tinf Tryd.prog 110 = some { size := 1, bytes := 8, zero := some [Value.nilFunc], kind := TK.other } := by kernel_rfl
@[simp] theorem tinf111 : tinf Tryd.prog 111 = some { size := 1, bytes := 16, zero := some [Value.nilIface], kind := TK.other } := by kernel_rfl
@[simp] theorem tinf112 : tinf Tryd.prog 112 = some { size := 1, bytes := 16, zero := some [Value.nilIface], kind := TK.other } := by kernel_rfl
@[simp] theorem tinf114 : tinf Tryd.prog 114 = some { size := 1, bytes := 8, zero := some [Value.nilFunc], kind := TK.other } := by kernel_rfl
@[simp] theorem tinf115 : tinf Tryd.prog 115 = some { size := 1, bytes := 24, zero := some [Value.slice none 0 0], kind := TK.slice 69 } := by kernel_rfl
@[simp] theorem tinf116 : tinf Tryd.prog 116 = some { size := 1, bytes := 8, zero := some [Value.nilFunc], kind := TK.other } := by kernel_rfl
@[simp] theorem tinf117 : tinf Tryd.prog 117 = some { size := 1, bytes := 8, zero := some [Value.nilFunc], kind := TK.other } := by kernel_rfl
@[simp] theorem tinf118 : tinf Tryd.prog 118 = some { size := 1, bytes := 8, zero := some [Value.nilFunc], kind := TK.other } := by kernel_rfl
@[simp] theorem tinf119 : tinf Tryd.prog 119 = some { size := 1, bytes := 8, zero := some [Value.nilFunc], kind := TK.other } := by kernel_rfl
@[simp] theorem tinf120 : tinf Tryd.prog 120 = some { size := 1, bytes := 8, zero := some [Value.nilFunc], kind := TK.other } := by kernel_rfl
@[simp] theorem tinf121 : tinf Tryd.prog 121 = some { size := 1, bytes := 24, zero := some [Value.slice none 0 0], kind := TK.slice 25 } := by kernel_rfl
@[simp] theorem tinf122 : tinf Tryd.prog 122 = some { size := 1, bytes := 8, zero := some [Value.nilFunc], kind := TK.other } := by kernel_rfl
@[simp] theorem tinf123 : tinf Tryd.prog 123 = some { size := 1, bytes := 8, zero := some [Value.nilFunc], kind := TK.other } := by kernel_rfl
@[simp] theorem tinf124 : tinf Tryd.prog 124 = some { size := 1, bytes := 8, zero := some [Value.nilFunc], kind := TK.other } := by kernel_rfl
@[simp] theorem tinf125 : tinf Tryd.prog 125 = some { size := 1, bytes := 8, zero := some [Value.nilFunc], kind := TK.other } := by kernel_rfl
@[simp] theorem tinf126 : tinf Tryd.prog 126 = some { size := 1, bytes := 8, zero := some [Value.nilFunc], kind := TK.other } := by kernel_rfl
@[simp] theorem tinf127 : tinf Tryd.prog 127 = some { size := 1, bytes := 8, zero := some [Value.nilFunc], kind := TK.other } := by kernel_rfl
@[simp] theorem tinf128 : tinf Tryd.prog 128 = some { size := 1, bytes := 8, zero := some [Value.nilFunc], kind := TK.other } := by kernel_rfl
@[simp] theorem tinf129 : tinf Tryd.prog 129 = some { size := 1, bytes := 8, zero := some [Value.nilFunc], kind := TK.other } := by kernel_rfl
@[simp] theorem tinf130 : tinf Tryd.prog 130 = some { size := 1, bytes := 8, zero := some [Value.nilFunc], kind := TK.other } := by kernel_rfl
@[simp] theorem tinf131 : tinf Tryd.prog 131 = some { size := 1, bytes := 8, zero := some [Value.nilFunc], kind := TK.other } := by kernel_rfl
@[simp] theorem tinf132 : tinf Tryd.prog 132 = some { size := 1, bytes := 24, zero := some [Value.slice none 0 0], kind := TK.slice 5 } := by kernel_rfl
@[simp] theorem tinf133 : tinf Tryd.prog 133 = some { size := 1, bytes := 8, zero := some [Value.nilFunc], kind := TK.other } := by kernel_rfl
@[simp] theorem tinf134 : tinf Tryd.prog 134 = some { size := 1, bytes := 8, zero := some [Value.nilFunc], kind := TK.other } := by kernel_rfl
@[simp] theorem tinf135 : tinf Tryd.prog 135 = some { size := 1, bytes := 8, zero := some [Value.nilFunc], kind := TK.other } := by kernel_rfl
@[simp] theorem tinf136 : tinf Tryd.prog 136 = some { size := 2, bytes := 32, zero := some [Value.string { data := { toList := [] } }, Value.string { data := { toList := [] } }], kind := TK.struct [(0, 1, false), (1, 1, false)] } := by kernel_rfl
@[simp] theorem plain136 : plainKinds Tryd.prog 136 = some [TK.string, TK.string] := by kernel_rfl
@[simp] theorem tinf137 : tinf Tryd.prog 137 = some { size := 2, bytes := 32, zero := some [Value.string { data := { toList := [] } }, Value.string { data := { toList := [] } }], kind := TK.struct [(0, 1, false), (1, 1, false)] } := by kernel_rfl
@[simp] theorem plain137 : plainKinds Tryd.prog 137 = some [TK.string, TK.string] := by kernel_rfl
@[simp] theorem tinf138 : tinf Tryd.prog 138 = some { size := 1, bytes := 8, zero := some [Value.nilFunc], kind := TK.other } := by kernel_rfl
@[simp] theorem tinf139 : tinf Tryd.prog 139 = some { size := 1, bytes := 8, zero := some [Value.nilFunc], kind := TK.other } := by kernel_rfl
@[simp] theorem tinf140 : tinf Tryd.prog 140 = some { size := 1, bytes := 8, zero := some [Value.nilFunc], kind := TK.other } := by kernel_rfl
@[simp] theorem tinf141 : tinf Tryd.prog 141 = some { size := 1, bytes := 24, zero := some [Value.slice none 0 0], kind := TK.slice 27 } := by kernel_rfl
@[simp] theorem tinf142 : tinf Tryd.prog 142 = some { size := 1, bytes := 8, zero := some [Value.nilFunc], kind := TK.other } := by kernel_rfl
@[simp] theorem tinf143 : tinf Tryd.prog 143 = some { size := 1, bytes := 8, zero := some [Value.nilFunc], kind := TK.other } := by kernel_rfl
@[simp] theorem tinf144 : tinf Tryd.prog 144 = some { size := 4, bytes := 40, zero := some [Value.string { data := { toList := [] } }, Value.int IntKind.i64 (0), Value.int IntKind.i64 (0), Value.int IntKind.i64 (0)], kind := TK.struct [(0, 1, false), (1, 1, false), (2, 1, false), (3, 1, false)] } := by kernel_rfl
@[simp] theorem plain144 : plainKinds Tryd.prog 144 = some [TK.string, TK.int IntKind.i64, TK.int IntKind.i64, TK.int IntKind.i64] := by kernel_rfl
@[simp] theorem tinf145 : tinf Tryd.prog 145 = some { size := 4, bytes := 40, zero := some [Value.string { data := { toList := [] } }, Value.int IntKind.i64 (0), Value.int IntKind.i64 (0), Value.int IntKind.i64 (0)], kind := TK.struct [(0, 1, false), (1, 1, false), (2, 1, false), (3, 1, false)] } := by kernel_rfl
@[simp] theorem plain145 : plainKinds Tryd.prog 145 = some [TK.string, TK.int IntKind.i64, TK.int IntKind.i64, TK.int IntKind.i64] := by kernel_rfl
@[simp] theorem tinf147 : tinf Tryd.prog 147 = some { size := 1, bytes := 8, zero := some [Value.nilFunc], kind := TK.other } := by kernel_rfl
@[simp] theorem tinf149 : tinf Tryd.prog 149 = some { size := 1, bytes := 8, zero := some [Value.nilFunc], kind := TK.other } := by kernel_rfl
@[simp] theorem tinf150 : tinf Tryd.prog 150 = some { size := 1, bytes := 8, zero := some [Value.nilFunc], kind := TK.other } := by kernel_rfl
@[simp] theorem tinf151 : tinf Tryd.prog 151 = some { size := 1, bytes := 24, zero := some [Value.slice none 0 0], kind := TK.slice 2 } := by kernel_rfl
@[simp] theorem tinf152 : tinf Tryd.prog 152 = some { size := 4, bytes := 40, zero := some [Value.string { data := { toList := [] } }, Value.int IntKind.i64 (0), Value.int IntKind.i64 (0), Value.int IntKind.i64 (0)], kind := TK.struct [(0, 1, false), (1, 1, false), (2, 1, false), (3, 1, false)] } := by kernel_rfl
@[simp] theorem plain152 : plainKinds Tryd.prog 152 = some [TK.string, TK.int IntKind.i64, TK.int IntKind.i64, TK.int IntKind.i64] := by kernel_rfl
@[simp] theorem tinf153 : tinf Tryd.prog 153 = some { size := 4, bytes := 40, zero := some [Value.string { data := { toList := [] } }, Value.int IntKind.i64 (0), Value.int IntKind.i64 (0), Value.int IntKind.i64 (0)], kind := TK.struct [(0, 1, false), (1, 1, false), (2, 1, false), (3, 1, false)] } := by kernel_rfl
@[simp] theorem plain153 : plainKinds Tryd.prog 153 = some [TK.string, TK.int IntKind.i64, TK.int IntKind.i64, TK.int IntKind.i64] := by kernel_rfl
@[simp] theorem tinf155 : tinf Tryd.prog 155 = some { size := 1, bytes := 8, zero := some [Value.nilFunc], kind := TK.other } := by kernel_rfl
@[simp] theorem tinf156 : tinf Tryd.prog 156 = some { size := 1, bytes := 8, zero := some [Value.nilFunc], kind := TK.other } := by kernel_rfl
@[simp] theorem tinf157 : tinf Tryd.prog 157 = some { size := 1, bytes := 8, zero := some [Value.nilFunc], kind := TK.other } := by kernel_rfl
@[simp] theorem tinf158 : tinf Tryd.prog 158 = some { size := 1, bytes := 8, zero := some [Value.nilFunc], kind := TK.other } := by kernel_rfl
@[simp] theorem tinf159 : tinf Tryd.prog 159 = some { size := 1, bytes := 8, zero := some [Value.nilFunc], kind := TK.other } := by kernel_rfl
@[simp] theorem tinf160 : tinf Tryd.prog 160 = some { size := 1, bytes := 8, zero := some [Value.nilFunc], kind := TK.other } := by kernel_rfl
@[simp] theorem tinf161 : tinf Tryd.prog 161 = some { size := 1, bytes := 8, zero := some [Value.int IntKind.i64 (0)], kind := TK.int IntKind.i64 } := by kernel_rfl
@[simp] theorem tinf162 : tinf Tryd.prog 162 = some { size := 1, bytes := 8, zero := some [Value.int IntKind.u64 (0)], kind := TK.int IntKind.u64 } := by kernel_rfl
@[simp] theorem tinf164 : tinf Tryd.prog 164 = some { size := 1, bytes := 8, zero := some [Value.nilFunc], kind := TK.other } := by kernel_rfl
@[simp] theorem tinf165 : tinf Tryd.prog 165 = some { size := 1, bytes := 8, zero := some [Value.int IntKind.u64 (0)], kind := TK.int IntKind.u64 } := by kernel_rfl
@[simp] theorem tinf166 : tinf Tryd.prog 166 = some { size := 1, bytes := 8, zero := some [Value.pointer none], kind := TK.other } := by kernel_rfl
@[simp] theorem tinf167 : tinf Tryd.prog 167 = some { size := 1, bytes := 8, zero := some [Value.nilFunc], kind := TK.other } := by kernel_rfl
@[simp] theorem tinf168 : tinf Tryd.prog 168 = some { size := 1, bytes := 8, zero := some [Value.nilFunc], kind := TK.other } := by kernel_rfl
@[simp] theorem tinf169 : tinf Tryd.prog 169 = some { size := 1, bytes := 8, zero := some [Value.nilFunc], kind := TK.other } := by kernel_rfl
@[simp] theorem tinf170 : tinf Tryd.prog 170 = some { size := 1, bytes := 8, zero := some [Value.nilFunc], kind := TK.other } := by kernel_rfl
@[simp] theorem tinf171 : tinf Tryd.prog 171 = some { size := 1, bytes := 8, zero := some [Value.nilFunc], kind := TK.other } := by kernel_rfl
@[simp] theorem tinf172 : tinf Tryd.prog 172 = some { size := 24, bytes := 24, zero := some [Value.int IntKind.u8 (0), Value.int IntKind.u8 (0), Value.int IntKind.u8 (0), Value.int IntKind.u8 (0), Value.int IntKind.u8 (0), Value.int IntKind.u8 (0), Value.int IntKind.u8 (0), Value.int IntKind.u8 (0), Value.int IntKind.u8 (0), Value.int IntKind.u8 (0), Value.int IntKind.u8 (0), Value.int IntKind.u8 (0), Value.int IntKind.u8 (0), Value.int IntKind.u8 (0), Value.int IntKind.u8 (0), Value.int IntKind.u8 (0), Value.int IntKind.u8 (0), Value.int IntKind.u8 (0), Value.int IntKind.u8 (0), Value.int IntKind.u8 (0), Value.int IntKind.u8 (0), Value.int IntKind.u8 (0), Value.int IntKind.u8 (0), Value.int IntKind.u8 (0)], kind := TK.array 24 5 } := by kernel_rfl
@[simp] theorem tinf173 : tinf Tryd.prog 173 = some { size := 1, bytes := 8, zero := some [Value.nilFunc], kind := TK.other } := by kernel_rfl
@[simp] theorem tinf174 : tinf Tryd.prog 174 = some { size := 1, bytes := 8, zero := some [Value.nilFunc], kind := TK.other } := by kernel_rfl
@[simp] theorem tinf176 : tinf Tryd.prog 176 = some { size := 1, bytes := 8, zero := some [Value.nilFunc], kind := TK.other } := by kernel_rfl
@[simp] theorem tinf177 : tinf Tryd.prog 177 = some { size := 1, bytes := 8, zero := some [Value.nilFunc], kind := TK.other } := by kernel_rfl
@[simp] theorem tinf178 : tinf Tryd.prog 178 = some { size := 1, bytes := 8, zero := some [Value.nilFunc], kind := TK.other } := by kernel_rfl
@[simp] theorem tinf179 : tinf Tryd.prog 179 = some { size := 1, bytes := 8, zero := some [Value.nilFunc], kind := TK.other } := by kernel_rfl
@[simp] theorem tinf180 : tinf Tryd.prog 180 = some { size := 1, bytes := 8, zero := some [Value.nilFunc], kind := TK.other } := by kernel_rfl
@[simp] theorem tinf181 : tinf Tryd.prog 181 = some { size := 96, bytes := 960, zero := some [Value.string { data := { toList := [] } }, Value.int IntKind.i64 (0), Value.int IntKind.i64 (0), Value.int IntKind.i64 (0), Value.string { data := { toList := [] } }, Value.int IntKind.i64 (0), Value.int IntKind.i64 (0), Value.int IntKind.i64 (0), Value.string { data := { toList := [] } }, Value.int IntKind.i64 (0), Value.int IntKind.i64 (0), Value.int IntKind.i64 (0), Value.string { data := { toList := [] } }, Value.int IntKind.i64 (0), Value.int IntKind.i64 (0), Value.int IntKind.i64 (0), Value.string { data := { toList := [] } }, Value.int IntKind.i64 (0), Value.int IntKind.i64 (0), Value.int IntKind.i64 (0), Value.string { data := { toList := [] } }, Value.int IntKind.i64 (0), Value.int IntKind.i64 (0), Value.int IntKind.i64 (0), Value.string { data := { toList := [] } }, Value.int IntKind.i64 (0), Value.int IntKind.i64 (0), Value.int IntKind.i64 (0), Value.string { data := { toList := [] } }, Value.int IntKind.i64 (0), Value.int IntKind.i64 (0), Value.int IntKind.i64 (0), Value.string { data := { toList := [] } }, Value.int IntKind.i64 (0), Value.int IntKind.i64 (0), Value.int IntKind.i64 (0), Value.string { data := { toList := [] } }, Value.int IntKind.i64 (0), Value.int IntKind.i64 (0), Value.int IntKind.i64 (0), Value.string { data := { toList := [] } }, Value.int IntKind.i64 (0), Value.int IntKind.i64 (0), Value.int IntKind.i64 (0), Value.string { data := { toList := [] } }, Value.int IntKind.i64 (0), Value.int IntKind.i64 (0), Value.int IntKind.i64 (0), Value.string { data := { toList := [] } }, Value.int IntKind.i64 (0), Value.int IntKind.i64 (0), Value.int IntKind.i64 (0), Value.string { data := { toList := [] } }, Value.int IntKind.i64 (0), Value.int IntKind.i64 (0), Value.int IntKind.i64 (0), Value.string { data := { toList := [] } }, Value.int IntKind.i64 (0), Value.int IntKind.i64 (0), Value.int IntKind.i64 (0), Value.string { data := { toList := [] } }, Value.int IntKind.i64 (0), Value.int IntKind.i64 (0), Value.int IntKind.i64 (0), Value.string { data := { toList := [] } }, Value.int IntKind.i64 (0), Value.int IntKind.i64 (0), Value.int IntKind.i64 (0), Value.string { data := { toList := [] } }, Value.int IntKind.i64 (0), Value.int IntKind.i64 (0), Value.int IntKind.i64 (0), Value.string { data := { toList := [] } }, Value.int IntKind.i64 (0), Value.int IntKind.i64 (0), Value.int IntKind.i64 (0), Value.string { data := { toList := [] } }, Value.int IntKind.i64 (0), Value.int IntKind.i64 (0), Value.int IntKind.i64 (0), Value.string { data := { toList := [] } }, Value.int IntKind.i64 (0), Value.int IntKind.i64 (0), Value.int IntKind.i64 (0), Value.string { data := { toList := [] } }, Value.int IntKind.i64 (0), Value.int IntKind.i64 (0), Value.int IntKind.i64 (0), Value.string { data := { toList := [] } }, Value.int IntKind.i64 (0), Value.int IntKind.i64 (0), Value.int IntKind.i64 (0), Value.string { data := { toList := [] } }, Value.int IntKind.i64 (0), Value.int IntKind.i64 (0), Value.int IntKind.i64 (0)], kind := TK.array 24 145 } := by kernel_rfl
@[simp] theorem tinf182 : tinf Tryd.prog 182 = some { size := 1, bytes := 8, zero := some [Value.nilFunc], kind := TK.other } := by kernel_rfl
@[simp] theorem tinf184 : tinf Tryd.prog 184 = some { size := 1, bytes := 8, zero := some [Value.nilFunc], kind := TK.other } := by kernel_rfl
@[simp] theorem tinf185 : tinf Tryd.prog 185 = some { size := 1, bytes := 8, zero := some [Value.nilFunc], kind := TK.other } := by kernel_rfl
@[simp] theorem tinf186 : tinf Tryd.prog 186 = some { size := 1, bytes := 8, zero := some [Value.nilFunc], kind := TK.other } := by kernel_rfl
@[simp] theorem tinf187 : tinf Tryd.prog 187 = some { size := 1, bytes := 8, zero := some [Value.nilFunc], kind := TK.other } := by kernel_rfl
@[simp] theorem tinf188 : tinf Tryd.prog 188 = some { size := 1, bytes := 8, zero := some [Value.nilFunc], kind := TK.other } := by kernel_rfl
@[simp] theorem tinf189 : tinf Tryd.prog 189 = some { size := 1, bytes := 8, zero := some [Value.nilFunc], kind := TK.other } := by kernel_rfl
@[simp] theorem tinf190 : tinf Tryd.prog 190 = some { size := 3, bytes := 48, zero := some [Value.string { data := { toList := [] } }, Value.string { data := { toList := [] } }, Value.nilIface], kind := TK.struct [(0, 1, false), (1, 1, false), (2, 1, false)] } := by kernel_rfl
@[simp] theorem tinf191 : tinf Tryd.prog 191 = some { size := 3, bytes := 48, zero := some [Value.string { data := { toList := [] } }, Value.string { data := { toList := [] } }, Value.nilIface], kind := TK.struct [(0, 1, false), (1, 1, false), (2, 1, false)] } := by kernel_rfl
@[simp] theorem tinf192 : tinf Tryd.prog 192 = some { size := 1, bytes := 8, zero := some [Value.nilFunc], kind := TK.other } := by kernel_rfl
@[simp] theorem tinf193 : tinf Tryd.prog 193 = some { size := 1, bytes := 8, zero := some [Value.nilFunc], kind := TK.other } := by kernel_rfl
@[simp] theorem tinf194 : tinf Tryd.prog 194 = some { size := 1, bytes := 8, zero := some [Value.nilFunc], kind := TK.other } := by kernel_rfl
@[simp] theorem tinf195 : tinf Tryd.prog 195 = some { size := 20, bytes := 160, zero := some [Value.int IntKind.u64 (0), Value.int IntKind.u64 (0), Value.int IntKind.u64 (0), Value.int IntKind.u64 (0), Value.int IntKind.u64 (0), Value.int IntKind.u64 (0), Value.int IntKind.u64 (0), Value.int IntKind.u64 (0), Value.int IntKind.u64 (0), Value.int IntKind.u64 (0), Value.int IntKind.u64 (0), Value.int IntKind.u64 (0), Value.int IntKind.u64 (0), Value.int IntKind.u64 (0), Value.int IntKind.u64 (0), Value.int IntKind.u64 (0), Value.int IntKind.u64 (0), Value.int IntKind.u64 (0), Value.int IntKind.u64 (0), Value.int IntKind.u64 (0)], kind := TK.array 20 162 } := by kernel_rfl
@[simp] theorem tinf196 : tinf Tryd.prog 196 = some { size := 1, bytes := 4, zero := some [Value.int IntKind.u32 (0)], kind := TK.int IntKind.u32 } := by kernel_rfl
@[simp] theorem tinf197 : tinf Tryd.prog 197 = some { size := 65, bytes := 65, zero := some [Value.int IntKind.u8 (0), Value.int IntKind.u8 (0), Value.int IntKind.u8 (0), Value.int IntKind.u8 (0), Value.int IntKind.u8 (0), Value.int IntKind.u8 (0), Value.int IntKind.u8 (0), Value.int IntKind.u8 (0), Value.int IntKind.u8 (0), Value.int IntKind.u8 (0), Value.int IntKind.u8 (0), Value.int IntKind.u8 (0), Value.int IntKind.u8 (0), Value.int IntKind.u8 (0), Value.int IntKind.u8 (0), Value.int IntKind.u8 (0), Value.int IntKind.u8 (0), Value.int IntKind.u8 (0), Value.int IntKind.u8 (0), Value.int IntKind.u8 (0), Value.int IntKind.u8 (0), Value.int IntKind.u8 (0), Value.int IntKind.u8 (0), Value.int IntKind.u8 (0), Value.int IntKind.u8 (0), Value.int IntKind.u8 (0), Value.int IntKind.u8 (0), Value.int IntKind.u8 (0), Value.int IntKind.u8 (0), Value.int IntKind.u8 (0), Value.int IntKind.u8 (0), Value.int IntKind.u8 (0), Value.int IntKind.u8 (0), Value.int IntKind.u8 (0), Value.int IntKind.u8 (0), Value.int IntKind.u8 (0), Value.int IntKind.u8 (0), Value.int IntKind.u8 (0), Value.int IntKind.u8 (0), Value.int IntKind.u8 (0), Value.int IntKind.u8 (0), Value.int IntKind.u8 (0), Value.int IntKind.u8 (0), Value.int IntKind.u8 (0), Value.int IntKind.u8 (0), Value.int IntKind.u8 (0), Value.int IntKind.u8 (0), Value.int IntKind.u8 (0), Value.int IntKind.u8 (0), Value.int IntKind.u8 (0), Value.int IntKind.u8 (0), Value.int IntKind.u8 (0), Value.int IntKind.u8 (0), Value.int IntKind.u8 (0), Value.int IntKind.u8 (0), Value.int IntKind.u8 (0), Value.int IntKind.u8 (0), Value.int IntKind.u8 (0), Value.int IntKind.u8 (0), Value.int IntKind.u8 (0), Value.int IntKind.u8 (0), Value.int IntKind.u8 (0), Value.int IntKind.u8 (0), Value.int IntKind.u8 (0), Value.int IntKind.u8 (0)], kind := TK.array 65 5 } := by kernel_rfl
@[simp] theorem tinf198 : tinf Tryd.prog 198 = some { size := 1, bytes := 8, zero := some [Value.nilFunc], kind := TK.other } := by kernel_rfl
@[simp] theorem tinf199 : tinf Tryd.prog 199 = some { size := 116, bytes := 1160, zero := some [Value.string { data := { toList := [] } }, Value.int IntKind.i64 (0), Value.int IntKind.i64 (0), Value.int IntKind.i64 (0), Value.string { data := { toList := [] } }, Value.int IntKind.i64 (0), Value.int IntKind.i64 (0), Value.int IntKind.i64 (0), Value.string { data := { toList := [] } }, Value.int IntKind.i64 (0), Value.int IntKind.i64 (0), Value.int IntKind.i64 (0), Value.string { data := { toList := [] } }, Value.int IntKind.i64 (0), Value.int IntKind.i64 (0), Value.int IntKind.i64 (0), Value.string { data := { toList := [] } }, Value.int IntKind.i64 (0), Value.int IntKind.i64 (0), Value.int IntKind.i64 (0), Value.string { data := { toList := [] } }, Value.int IntKind.i64 (0), Value.int IntKind.i64 (0), Value.int IntKind.i64 (0), Value.string { data := { toList := [] } }, Value.int IntKind.i64 (0), Value.int IntKind.i64 (0), Value.int IntKind.i64 (0), Value.string { data := { toList := [] } }, Value.int IntKind.i64 (0), Value.int IntKind.i64 (0), Value.int IntKind.i64 (0), Value.string { data := { toList := [] } }, Value.int IntKind.i64 (0), Value.int IntKind.i64 (0), Value.int IntKind.i64 (0), Value.string { data := { toList := [] } }, Value.int IntKind.i64 (0), Value.int IntKind.i64 (0), Value.int IntKind.i64 (0), Value.string { data := { toList := [] } }, Value.int IntKind.i64 (0), Value.int IntKind.i64 (0), Value.int IntKind.i64 (0), Value.string { data := { toList := [] } }, Value.int IntKind.i64 (0), Value.int IntKind.i64 (0), Value.int IntKind.i64 (0), Value.string { data := { toList := [] } }, Value.int IntKind.i64 (0), Value.int IntKind.i64 (0), Value.int IntKind.i64 (0), Value.string { data := { toList := [] } }, Value.int IntKind.i64 (0), Value.int IntKind.i64 (0), Value.int IntKind.i64 (0), Value.string { data := { toList := [] } }, Value.int IntKind.i64 (0), Value.int IntKind.i64 (0), Value.int IntKind.i64 (0), Value.string { data := { toList := [] } }, Value.int IntKind.i64 (0), Value.int IntKind.i64 (0), Value.int IntKind.i64 (0), Value.string { data := { toList := [] } }, Value.int IntKind.i64 (0), Value.int IntKind.i64 (0), Value.int IntKind.i64 (0), Value.string { data := { toList := [] } }, Value.int IntKind.i64 (0), Value.int IntKind.i64 (0), Value.int IntKind.i64 (0), Value.string { data := { toList := [] } }, Value.int IntKind.i64 (0), Value.int IntKind.i64 (0), Value.int IntKind.i64 (0), Value.string { data := { toList := [] } }, Value.int IntKind.i64 (0), Value.int IntKind.i64 (0), Value.int IntKind.i64 (0), Value.string { data := { toList := [] } }, Value.int IntKind.i64 (0), Value.int IntKind.i64 (0), Value.int IntKind.i64 (0), Value.string { data := { toList := [] } }, Value.int IntKind.i64 (0), Value.int IntKind.i64 (0), Value.int IntKind.i64 (0), Value.string { data := { toList := [] } }, Value.int IntKind.i64 (0), Value.int IntKind.i64 (0), Value.int IntKind.i64 (0), Value.string { data := { toList := [] } }, Value.int IntKind.i64 (0), Value.int IntKind.i64 (0), Value.int IntKind.i64 (0), Value.string { data := { toList := [] } }, Value.int IntKind.i64 (0), Value.int IntKind.i64 (0), Value.int IntKind.i64 (0), Value.string { data := { toList := [] } }, Value.int IntKind.i64 (0), Value.int IntKind.i64 (0), Value.int IntKind.i64 (0), Value.string { data := { toList := [] } }, Value.int IntKind.i64 (0), Value.int IntKind.i64 (0), Value.int IntKind.i64 (0), Value.string { data := { toList := [] } }, Value.int IntKind.i64 (0), Value.int IntKind.i64 (0), Value.int IntKind.i64 (0), Value.string { data := { toList := [] } }, Value.int IntKind.i64 (0), Value.int IntKind.i64 (0), Value.int IntKind.i64 (0)], kind := TK.array 29 153 } := by kernel_rfl
@[simp] theorem tinf200 : tinf Tryd.prog 200 = some { size := 1, bytes := 8, zero := some [Value.nilFunc], kind := TK.other } := by kernel_rfl
@[simp] theorem tinf201 : tinf Tryd.prog 201 = some { size := 1, bytes := 8, zero := some [Value.pointer none], kind := TK.other } := by kernel_rfl
@[simp] theorem tinf202 : tinf Tryd.prog 202 = some { size := 1, bytes := 8, zero := some [Value.pointer none], kind := TK.other } := by kernel_rfl
@[simp] theorem tinf203 : tinf Tryd.prog 203 = some { size := 1, bytes := 16, zero := some [Value.string { data := { toList := [] } }], kind := TK.struct [(0, 1, false)] } := by kernel_rfl
@[simp] theorem plain203 : plainKinds Tryd.prog 203 = some [TK.string] := by kernel_rfl
@[simp] theorem tinf204 : tinf Tryd.prog 204 = some { size := 1, bytes := 16, zero := some [Value.string { data := { toList := [] } }], kind := TK.struct [(0, 1, false)] } := by kernel_rfl
@[simp] theorem plain204 : plainKinds Tryd.prog 204 = some [TK.string] := by kernel_rfl
@[simp] theorem tinf205 : tinf Tryd.prog 205 = some { size := 1, bytes := 8, zero := some [Value.nilFunc], kind := TK.other } := by kernel_rfl
@[simp] theorem tinf206 : tinf Tryd.prog 206 = some { size := 1, bytes := 8, zero := some [Value.nilFunc], kind := TK.other } := by kernel_rfl
@[simp] theorem tinf207 : tinf Tryd.prog 207 = some { size := 32, bytes := 32, zero := some [Value.int IntKind.u8 (0), Value.int IntKind.u8 (0), Value.int IntKind.u8 (0), Value.int IntKind.u8 (0), Value.int IntKind.u8 (0), Value.int IntKind.u8 (0), Value.int IntKind.u8 (0), Value.int IntKind.u8 (0), Value.int IntKind.u8 (0), Value.int IntKind.u8 (0), Value.int IntKind.u8 (0), Value.int IntKind.u8 (0), Value.int IntKind.u8 (0), Value.int IntKind.u8 (0), Value.int IntKind.u8 (0), Value.int IntKind.u8 (0), Value.int IntKind.u8 (0), Value.int IntKind.u8 (0), Value.int IntKind.u8 (0), Value.int IntKind.u8 (0), Value.int IntKind.u8 (0), Value.int IntKind.u8 (0), Value.int IntKind.u8 (0), Value.int IntKind.u8 (0), Value.int IntKind.u8 (0), Value.int IntKind.u8 (0), Value.int IntKind.u8 (0), Value.int IntKind.u8 (0), Value.int IntKind.u8 (0), Value.int IntKind.u8 (0), Value.int IntKind.u8 (0), Value.int IntKind.u8 (0)], kind := TK.array 32 5 } := by kernel_rfl
@[simp] theorem tinf208 : tinf Tryd.prog 208 = some { size := 64, bytes := 64, zero := some [Value.int IntKind.u8 (0), Value.int IntKind.u8 (0), Value.int IntKind.u8 (0), Value.int IntKind.u8 (0), Value.int IntKind.u8 (0), Value.int IntKind.u8 (0), Value.int IntKind.u8 (0), Value.int IntKind.u8 (0), Value.int IntKind.u8 (0), Value.int IntKind.u8 (0), Value.int IntKind.u8 (0), Value.int IntKind.u8 (0), Value.int IntKind.u8 (0), Value.int IntKind.u8 (0), Value.int IntKind.u8 (0), Value.int IntKind.u8 (0), Value.int IntKind.u8 (0), Value.int IntKind.u8 (0), Value.int IntKind.u8 (0), Value.int IntKind.u8 (0), Value.int IntKind.u8 (0), Value.int IntKind.u8 (0), Value.int IntKind.u8 (0), Value.int IntKind.u8 (0), Value.int IntKind.u8 (0), Value.int IntKind.u8 (0), Value.int IntKind.u8 (0), Value.int IntKind.u8 (0), Value.int IntKind.u8 (0), Value.int IntKind.u8 (0), Value.int IntKind.u8 (0), Value.int IntKind.u8 (0), Value.int IntKind.u8 (0), Value.int IntKind.u8 (0), Value.int IntKind.u8 (0), Value.int IntKind.u8 (0), Value.int IntKind.u8 (0), Value.int IntKind.u8 (0), Value.int IntKind.u8 (0), Value.int IntKind.u8 (0), Value.int IntKind.u8 (0), Value.int IntKind.u8 (0), Value.int IntKind.u8 (0), Value.int IntKind.u8 (0), Value.int IntKind.u8 (0), Value.int IntKind.u8 (0), Value.int IntKind.u8 (0), Value.int IntKind.u8 (0), Value.int IntKind.u8 (0), Value.int IntKind.u8 (0), Value.int IntKind.u8 (0), Value.int IntKind.u8 (0), Value.int IntKind.u8 (0), Value.int IntKind.u8 (0), Value.int IntKind.u8 (0), Value.int IntKind.u8 (0), Value.int IntKind.u8 (0), Value.int IntKind.u8 (0), Value.int IntKind.u8 (0), Value.int IntKind.u8 (0), Value.int IntKind.u8 (0), Value.int IntKind.u8 (0), Value.int IntKind.u8 (0), Value.int IntKind.u8 (0)], kind := TK.array 64 5 } := by kernel_rfl
@[simp] theorem tinf210 : tinf Tryd.prog 210 = some { size := 1, bytes := 8, zero := some [Value.nilFunc], kind := TK.other } := by kernel_rfl
@[simp] theorem tinf211 : tinf Tryd.prog 211 = some { size := 1, bytes := 8, zero := some [Value.nilFunc], kind := TK.other } := by kernel_rfl
@[simp] theorem tinf212 : tinf Tryd.prog 212 = some { size := 4, bytes := 40, zero := some [Value.pointer none, Value.pointer none, Value.pointer none, Value.string { data := { toList := [] } }], kind := TK.struct [(0, 1, false), (1, 1, false), (2, 1, false), (3, 1, false)] } := by kernel_rfl
@[simp] theorem tinf213 : tinf Tryd.prog 213 = some { size := 4, bytes := 40, zero := some [Value.pointer none, Value.pointer none, Value.pointer none, Value.string { data := { toList := [] } }], kind := TK.struct [(0, 1, false), (1, 1, false), (2, 1, false), (3, 1, false)] } := by kernel_rfl
@[simp] theorem tinf214 : tinf Tryd.prog 214 = some { size := 0, bytes := 0, zero := some [], kind := TK.array 0 16 } := by kernel_rfl
@[simp] theorem tinf215 : tinf Tryd.prog 215 = some { size := 0, bytes := 0, zero := some [], kind := TK.struct [(0, 0, true)] } := by kernel_rfl
@[simp] theorem tinf216 : tinf Tryd.prog 216 = some { size := 0, bytes := 0, zero := some [], kind := TK.struct [(0, 0, true)] } := by kernel_rfl
@[simp] theorem tinf217 : tinf Tryd.prog 217 = some { size := 1, bytes := 8, zero := some [Value.nilFunc], kind := TK.other } := by kernel_rfl
@[simp] theorem tinf218 : tinf Tryd.prog 218 = some { size := 1, bytes := 1, zero := some [Value.int IntKind.u8 (0)], kind := TK.int IntKind.u8 } := by kernel_rfl
@[simp] theorem tinf219 : tinf Tryd.prog 219 = some { size := 1, bytes := 1, zero := some [Value.int IntKind.u8 (0)], kind := TK.int IntKind.u8 } := by kernel_rfl
@[simp] theorem tinf220 : tinf Tryd.prog 220 = some { size := 1, bytes := 8, zero := some [Value.nilFunc], kind := TK.other } := by kernel_rfl
@[simp] theorem tinf221 : tinf Tryd.prog 221 = some { size := 1, bytes := 4, zero := some [Value.int IntKind.i32 (0)], kind := TK.int IntKind.i32 } := by kernel_rfl
@[simp] theorem tinf222 : tinf Tryd.prog 222 = some { size := 1, bytes := 4, zero := some [Value.int IntKind.i32 (0)], kind := TK.int IntKind.i32 } := by kernel_rfl
@[simp] theorem tinf223 : tinf Tryd.prog 223 = some { size := 11, bytes := 48, zero := some [Value.int IntKind.u64 (0), Value.int IntKind.u64 (0), Value.int IntKind.u32 (0), Value.int IntKind.u8 (0), Value.int IntKind.u8 (0), Value.int IntKind.u8 (0), Value.int IntKind.u8 (0), Value.nilFunc, Value.pointer none, Value.int IntKind.i32 (0), Value.int IntKind.i32 (0)], kind := TK.struct [(0, 1, false), (1, 1, false), (2, 1, false), (3, 1, false), (4, 1, false), (5, 1, false), (6, 1, false), (7, 1, false), (8, 1, false), (9, 1, false), (10, 1, false)] } := by kernel_rfl
@[simp] theorem tinf224 : tinf Tryd.prog 224 = some { size := 11, bytes := 48, zero := some [Value.int IntKind.u64 (0), Value.int IntKind.u64 (0), Value.int IntKind.u32 (0), Value.int IntKind.u8 (0), Value.int IntKind.u8 (0), Value.int IntKind.u8 (0), Value.int IntKind.u8 (0), Value.nilFunc, Value.pointer none, Value.int IntKind.i32 (0), Value.int IntKind.i32 (0)], kind := TK.struct [(0, 1, false), (1, 1, false), (2, 1, false), (3, 1, false), (4, 1, false), (5, 1, false), (6, 1, false), (7, 1, false), (8, 1, false), (9, 1, false), (10, 1, false)] } := by kernel_rfl
@[simp] theorem tinf225 : tinf Tryd.prog 225 = some { size := 1, bytes := 8, zero := some [Value.pointer none], kind := TK.other } := by kernel_rfl
end Go.Proofs.Tryd
/- Names: the reserved words, found within a text of them or one by one. No program in sight. -/
namespace Go.Proofs.Tryd
open Go.Ab

/-- Words, each behind a space, and a space at the end. -/
def spaced : List (List UInt8) → List UInt8
  | [] => [32]
  | w :: ws => 32 :: (w ++ spaced ws)
/-- Whether a text begins with another somewhere. -/
def within (sub : List UInt8) : List UInt8 → Bool
  | [] => sub.isEmpty
  | b :: l => sub.isPrefixOf (b :: l) || within sub l
theorem within_index (sub : List UInt8) : ∀ l : List UInt8, decide (0 ≤ Lib.index l sub) = within sub l
  | [] => by unfold Lib.index within; cases sub <;> simp
  | b :: l => by
    have ih := within_index sub l
    have hge := Lib.index_ge l sub
    unfold Lib.index within
    cases h : sub.isPrefixOf (b :: l) with
    | true => simp
    | false =>
      rw [← ih]
      simp only [Bool.false_or, Bool.false_eq_true, if_false]
      by_cases h1 : Lib.index l sub = -1
      · simp [h1]
      · have : (Lib.index l sub == -1) = false := by simpa using h1
        rw [this]
        simp
        omega
def plainW (w : List UInt8) : Bool := w.all (· != 32)
theorem within_skip (s : List UInt8) : ∀ (w l : List UInt8), plainW w = true → within (32 :: (s ++ [32])) (w ++ l) = within (32 :: (s ++ [32])) l
  | [], l, _ => rfl
  | b :: w, l, h => by
    simp only [plainW, List.all_cons, Bool.and_eq_true, bne_iff_ne, ne_eq] at h
    have h2 : plainW w = true := h.2
    rw [List.cons_append, within, within_skip s w l h2]
    have : ((32 : UInt8) == b) = false := by simpa using fun e => h.1 e.symm
    simp [List.isPrefixOf, this]
theorem spaced_head (ws : List (List UInt8)) : ∃ l, spaced ws = 32 :: l := by cases ws <;> exact ⟨_, rfl⟩
theorem prefix_word : ∀ (s w l : List UInt8), plainW s = true → plainW w = true → (s ++ [32]).isPrefixOf (w ++ 32 :: l) = (s == w)
  | [], [], l, _, _ => by simp [List.isPrefixOf]
  | [], b :: w, l, _, h => by
    simp only [plainW, List.all_cons, Bool.and_eq_true, bne_iff_ne, ne_eq] at h
    have : ((32 : UInt8) == b) = false := by simpa using fun e => h.1 e.symm
    simp [List.isPrefixOf, this]
  | a :: s, [], l, h, _ => by
    simp only [plainW, List.all_cons, Bool.and_eq_true, bne_iff_ne, ne_eq] at h
    have : (a == (32 : UInt8)) = false := by simpa using h.1
    simp [List.isPrefixOf, this]
  | a :: s, b :: w, l, h1, h2 => by
    simp only [plainW, List.all_cons, Bool.and_eq_true] at h1 h2
    have ih := prefix_word s w l h1.2 h2.2
    simp only [List.cons_append, List.isPrefixOf]
    rw [ih]
    rfl
theorem within_spaced (s : List UInt8) (hs : plainW s = true) : ∀ ws : List (List UInt8), ws.all plainW = true → within (32 :: (s ++ [32])) (spaced ws) = ws.contains s
  | [], _ => by cases s <;> simp [spaced, within, List.isPrefixOf]
  | w :: ws, h => by
    simp only [List.all_cons, Bool.and_eq_true] at h
    rw [spaced, within, within_skip s w _ h.1, within_spaced s hs ws h.2]
    obtain ⟨l, hl⟩ := spaced_head ws
    simp only [List.isPrefixOf, BEq.rfl, Bool.true_and]
    rw [hl, prefix_word s w l hs h.1, Bool.eq_iff_iff]
    simp

def lowr (c : UInt8) : Bool := decide (97 ≤ c.toNat) && decide (c.toNat ≤ 122)
def nameB (c : UInt8) : Bool := lowr c || (decide (48 ≤ c.toNat) && decide (c.toNat ≤ 57) || c.toNat == 95)
theorem nameB_plain {c : UInt8} (h : nameB c = true) : (c != 32) = true := by
  have : c ≠ 32 := by rintro rfl; revert h; decide
  simpa using this
theorem plain_of_name {s : List UInt8} (h : s.all nameB = true) : plainW s = true := by
  rw [List.all_eq_true] at h
  exact List.all_eq_true.2 fun x hx => nameB_plain (h x hx)
def headLow : List UInt8 → Bool
  | [] => false
  | c :: _ => lowr c
/-- A name, where some words are reserved. -/
def nameOk (ws : List (List UInt8)) (s : List UInt8) : Bool := decide (s.length ≤ 16) && (headLow s && (s.all nameB && !ws.contains s))
end Go.Proofs.Tryd
/- Lists of data as cells. -/
namespace Go.Proofs.Tryd
open Go.Ab
@[simp] theorem cvAs_d (r : Nat → Option Nat) (bl : Nat → Blk) (kn : Bool) : ∀ l : List D, cvAs r bl kn (l.map AV.d) = (l.map AV.d, [])
  | [] => rfl
  | x :: l => by rw [List.map_cons, cvAs, cvAs_d r bl kn l]; rfl
@[simp] theorem toDs_d (bl : Nat → Blk) : ∀ l : List D, toDs bl (l.map AV.d) = some (l, [])
  | [] => rfl
  | x :: l => by rw [List.map_cons, toDs, toDs_d bl l]; rfl
@[simp] theorem names_d : ∀ l : List D, List.flatMap AV.names (l.map AV.d) = []
  | [] => rfl
  | x :: l => by rw [List.map_cons, List.flatMap_cons, names_d l]; rfl
end Go.Proofs.Tryd
/- Contracts of the library's functions at this program: printed by the kit's tools (lay-shelf, lay-plain), cut to what is used. -/
namespace Go.Proofs
open Go.Shelf
def Tryd.lays144_ren : Go.Shelf.Ren := ⟨fun | 144 => 118 | 143 => 141 | 219 => 158 | 217 => 163 | 225 => 164 | 224 => 165 | 267 => 166 | 266 => 167 | 314 => 168 | n => n, fun | 9 => 9 | 4 => 4 | 3 => 3 | 5 => 5 | 46 => 165 | 146 => 209 | 51 => 196 | n => n, fun | 1 => 6 | n => n⟩
theorem Tryd.lays144 : Go.Proofs.Lays.n144 Tryd.prog Tryd.lays144_ren := {
  mixed := by kernel_rfl
  f143 := Tryd.func141.trans (congrArg some (by kernel_rfl))
  f144 := Tryd.func118.trans (congrArg some (by kernel_rfl))
  f217 := Tryd.func163.trans (congrArg some (by kernel_rfl))
  f219 := Tryd.func158.trans (congrArg some (by kernel_rfl))
  f224 := Tryd.func165.trans (congrArg some (by kernel_rfl))
  f225 := Tryd.func164.trans (congrArg some (by kernel_rfl))
  f266 := Tryd.func167.trans (congrArg some (by kernel_rfl))
  f267 := Tryd.func166.trans (congrArg some (by kernel_rfl))
  f314 := Tryd.func168.trans (congrArg some (by kernel_rfl))
  t3 := Tryd.underlying3
  a3 := Tryd.isAgg3
  z3 := Tryd.sizeOf3
  v3 := Tryd.zeroValue3
  t4 := Tryd.underlying4
  a4 := Tryd.isAgg4
  z4 := Tryd.sizeOf4
  v4 := Tryd.zeroValue4
  t5 := Tryd.underlying5
  a5 := Tryd.isAgg5
  z5 := Tryd.sizeOf5
  v5 := Tryd.zeroValue5
  t9 := Tryd.underlying9
  a9 := Tryd.isAgg9
  z9 := Tryd.sizeOf9
  v9 := Tryd.zeroValue9
  t46 := Tryd.underlying165
  a46 := Tryd.isAgg165
  z46 := Tryd.sizeOf165
  v46 := Tryd.zeroValue165
  t51 := Tryd.underlying196
  a51 := Tryd.isAgg196
  z51 := Tryd.sizeOf196
  v51 := Tryd.zeroValue196
  t146 := Tryd.underlying209
  a146 := Tryd.isAgg209
  z146 := Tryd.sizeOf209
  v146 := Tryd.zeroValue209
  g1 := by kernel_rfl }
open Go.RowKit Go.Lib in
theorem Tryd.strings_Contains (s sub : ByteArray) (m : Int) (w : World) (hs : s.size < 4294967281) (hm : w.cell? ⟨6, 0, none⟩ = some (.int .i64 m)) :
    Calls Tryd.prog 118 #[.string s, .string sub] w fun e w' => e = .returned (.bool (Lib.contains s.data.toList sub.data.toList)) ∧ w' = w := Any.strings_Contains Tryd.lays144 s sub m w hs hm
end Go.Proofs
/- What the program's listed variables hold: the signs of operators, and the length that the library's search looks up. -/
namespace Go.Proofs.Tryd
open Go.Ab
set_option maxRecDepth 100000

abbrev Sop := List UInt8 × Int × Int × Int
def sops : List Sop := [([], 0, 0, 0), ([], 0, 0, 0), ([], 0, 0, 0), ([], 0, 0, 0), ([], 0, 0, 0), ([], 0, 0, 0), ([43], 4, 4, 5), ([45], 4, 4, 5), ([42], 5, 5, 6), ([47], 5, 5, 6), ([109, 111, 100], 5, 5, 6), ([], 0, 0, 0), ([124, 124], 4, 4, 5), ([], 0, 0, 0), ([61], 3, 4, 4), ([60, 62], 3, 4, 4), ([60], 3, 4, 4), ([60, 61], 3, 4, 4), ([62], 3, 4, 4), ([62, 61], 3, 4, 4), ([115, 97, 109, 101], 3, 4, 4), ([], 0, 0, 0), ([97, 110, 100], 1, 1, 2), ([111, 114], 0, 0, 1)]
def sopC (o : Sop) : List D := [.str o.1, .int .i64 o.2.1, .int .i64 o.2.2.1, .int .i64 o.2.2.2]
def sopsC : List D := sops.flatMap sopC
def isI64 (v : Value) : Prop := ∃ m, v = .int .i64 m
noncomputable def Es : Env := ⟨Tryd.prog, fun g => if g = 1 then some sopsC else if g = 6 then some [.any isI64] else none⟩
@[simp] theorem Es_P : Es.P = Tryd.prog := id rfl
@[simp] theorem Es_G (g : Nat) : Es.G g = if g = 1 then some sopsC else if g = 6 then some [.any isI64] else none := rfl
theorem mixs : Es.P.follows .mixedOrders = true := by kernel_rfl
theorem ups {f : FuncId} {xs : List AV} {B : List Blk} {y : AV} {B' : List Blk} (h : Cf En f xs B y B') : Cf Es f xs B y B' :=
  Cf.more (E := En) (E' := Es) rfl (fun g cs e => by rw [En_G] at e; cases e) h

/-- The reserved words. -/
def words : List (List UInt8) := [[115, 101, 108, 101, 99, 116], [100, 105, 115, 116, 105, 110, 99, 116], [97, 108, 108], [102, 114, 111, 109], [119, 104, 101, 114, 101], [103, 114, 111, 117, 112], [98, 121], [104, 97, 118, 105, 110, 103], [97, 115], [111, 110], [117, 110, 105, 111, 110], [101, 120, 99, 101, 112, 116], [105, 110, 116, 101, 114, 115, 101, 99, 116], [106, 111, 105, 110], [105, 110, 110, 101, 114], [108, 101, 102, 116], [114, 105, 103, 104, 116], [102, 117, 108, 108], [99, 114, 111, 115, 115], [115, 101, 109, 105], [97, 110, 116, 105], [97, 110, 100], [111, 114], [110, 111, 116], [105, 115], [110, 117, 108, 108], [116, 114, 117, 101], [102, 97, 108, 115, 101], [105, 110], [99, 97, 115, 101], [119, 104, 101, 110], [116, 104, 101, 110], [101, 108, 115, 101], [101, 110, 100], [118, 97, 108, 117, 101, 115], [116, 97, 98, 108, 101], [112, 114, 105, 109, 97, 114, 121], [117, 110, 105, 113, 117, 101], [102, 111, 114, 101, 105, 103, 110], [114, 101, 102, 101, 114, 101, 110, 99, 101, 115], [99, 104, 101, 99, 107], [105, 110, 116], [98, 111, 111, 108], [116, 101, 120, 116], [99, 111, 117, 110, 116], [115, 117, 109], [109, 105, 110], [109, 97, 120], [99, 111, 97, 108, 101, 115, 99, 101], [108, 101, 110, 103, 116, 104], [115, 97, 109, 101], [109, 111, 100]]

theorem rest_cell {w : World} {g : Gh} {B : List Blk} {bl : Nat → Blk} (m : Mem (ctxOf Es w g B) bl w g) : ∃ n, w.cell? ⟨6, 0, none⟩ = some (.int .i64 n) := by
  have hc := m.glob 6 [.any isI64] (by simp [ctxOf])
  simp only [RepCells, RepD] at hc
  obtain ⟨⟨v, hv, ⟨n, rfl⟩, _⟩, _⟩ := hc
  exact ⟨n, m.con _ _ _ hv⟩
theorem c_contains (s sub : List UInt8) (hs : s.length < 4294967281) : Cf Es 118 [.d (.str s), .d (.str sub)] [] (.d (.bool (within sub s))) [] := by
  refine cf_of_calls (by kernel_rfl) fun w g vs hr m => ?_
  obtain ⟨_, _, rfl, r1, _, _, rfl, r2, r3⟩ := hr
  simp only [RepAs] at r3
  subst r3
  simp only [RepA, RepD] at r1 r2
  subst r1 r2
  obtain ⟨n, hn⟩ := rest_cell m
  refine (Tryd.strings_Contains _ _ n w (by simpa [ByteArray.size_mk'] using hs) hn).mono ?_
  rintro e w' ⟨rfl, rfl⟩
  refine ⟨_, rfl, ?_, .refl _ _⟩
  simp only [RepA, RepD, Lib.contains, within_index]
end Go.Proofs.Tryd
