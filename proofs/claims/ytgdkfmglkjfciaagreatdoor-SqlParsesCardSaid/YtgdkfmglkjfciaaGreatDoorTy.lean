import Derived.Test.YtgdkfmglkjfciaaGreatDoorAbB
import Derived.Test.YtgdkfmglkjfciaaGreatDoorProg
set_option linter.all false
namespace Go.Proofs.Tryz
open Go.Ab
noncomputable def En:Env:=⟨Tryz.prog,fun _=>none⟩
@[simp] theorem En_P:En.P=Tryz.prog:=id rfl
@[simp] theorem En_G (g:Nat):En.G g=none:=rfl
theorem mix:En.P.follows .mixedOrders=true:=by kernel_rfl
@[simp] theorem tinf2:tinf Tryz.prog 2=some { size:=1,bytes:=8,zero:=some [Value.int IntKind.i64 (0)],kind:=TK.int IntKind.i64 }:=by kernel_rfl
@[simp] theorem tinf3:tinf Tryz.prog 3=some { size:=1,bytes:=8,zero:=some [Value.int IntKind.i64 (0)],kind:=TK.int IntKind.i64 }:=by kernel_rfl
@[simp] theorem tinf4:tinf Tryz.prog 4=some { size:=1,bytes:=1,zero:=some [Value.bool false],kind:=TK.bool }:=by kernel_rfl
@[simp] theorem tinf5:tinf Tryz.prog 5=some { size:=1,bytes:=1,zero:=some [Value.int IntKind.u8 (0)],kind:=TK.int IntKind.u8 }:=by kernel_rfl
@[simp] theorem tinf9:tinf Tryz.prog 9=some { size:=1,bytes:=16,zero:=some [Value.string { data:={ toList:=[] } }],kind:=TK.string }:=by kernel_rfl
@[simp] theorem tinf22:tinf Tryz.prog 22=some { size:=1,bytes:=24,zero:=some [Value.slice none 0 0],kind:=TK.slice 3 }:=by kernel_rfl
@[simp] theorem tinf24:tinf Tryz.prog 24=some { size:=1,bytes:=24,zero:=some [Value.slice none 0 0],kind:=TK.slice 9 }:=by kernel_rfl
@[simp] theorem tinf25:tinf Tryz.prog 25=some { size:=1,bytes:=24,zero:=some [Value.slice none 0 0],kind:=TK.slice 59 }:=by kernel_rfl
@[simp] theorem tinf26:tinf Tryz.prog 26=some { size:=1,bytes:=24,zero:=some [Value.slice none 0 0],kind:=TK.slice 32 }:=by kernel_rfl
@[simp] theorem tinf28:tinf Tryz.prog 28=some { size:=3,bytes:=56,zero:=some [Value.string { data:={ toList:=[] } },Value.slice none 0 0,Value.string { data:={ toList:=[] } }],kind:=TK.struct [(0,1,false),(1,1,false),(2,1,false)] }:=by kernel_rfl
@[simp] theorem tinf29:tinf Tryz.prog 29=some { size:=1,bytes:=24,zero:=some [Value.slice none 0 0],kind:=TK.slice 62 }:=by kernel_rfl
@[simp] theorem tinf30:tinf Tryz.prog 30=some { size:=1,bytes:=24,zero:=some [Value.slice none 0 0],kind:=TK.slice 57 }:=by kernel_rfl
@[simp] theorem tinf32:tinf Tryz.prog 32=some { size:=13,bytes:=216,zero:=some [Value.int IntKind.i64 (0),Value.bool false,Value.bool false,Value.bool false,Value.slice none 0 0,Value.string { data:={ toList:=[] } },Value.slice none 0 0,Value.string { data:={ toList:=[] } },Value.slice none 0 0,Value.slice none 0 0,Value.slice none 0 0,Value.slice none 0 0,Value.slice none 0 0],kind:=TK.struct [(0,1,false),(1,1,false),(2,1,false),(3,1,false),(4,1,false),(5,3,true),(8,1,false),(9,1,false),(10,1,false),(11,1,false),(12,1,false)] }:=by kernel_rfl
@[simp] theorem tinf41:tinf Tryz.prog 41=some { size:=2,bytes:=32,zero:=some [Value.slice none 0 0,Value.int IntKind.i64 (0)],kind:=TK.struct [(0,1,false),(1,1,false)] }:=by kernel_rfl
@[simp] theorem tinf53:tinf Tryz.prog 53=some { size:=5,bytes:=48,zero:=some [Value.int IntKind.i64 (0),Value.string { data:={ toList:=[] } },Value.int IntKind.i64 (0),Value.int IntKind.i64 (0),Value.int IntKind.i64 (0)],kind:=TK.struct [(0,1,false),(1,1,false),(2,1,false),(3,1,false),(4,1,false)] }:=by kernel_rfl
@[simp] theorem tinf55:tinf Tryz.prog 55=some { size:=7,bytes:=72,zero:=some [Value.string { data:={ toList:=[] } },Value.int IntKind.i64 (0),Value.string { data:={ toList:=[] } },Value.int IntKind.i64 (0),Value.int IntKind.i64 (0),Value.int IntKind.i64 (0),Value.int IntKind.i64 (0)],kind:=TK.struct [(0,1,false),(1,5,true),(6,1,false)] }:=by kernel_rfl
@[simp] theorem tinf57:tinf Tryz.prog 57=some { size:=6,bytes:=80,zero:=some [Value.int IntKind.i64 (0),Value.int IntKind.i64 (0),Value.int IntKind.i64 (0),Value.string { data:={ toList:=[] } },Value.string { data:={ toList:=[] } },Value.slice none 0 0],kind:=TK.struct [(0,1,false),(1,1,false),(2,1,false),(3,1,false),(4,1,false),(5,1,false)] }:=by kernel_rfl
@[simp] theorem tinf59:tinf Tryz.prog 59=some { size:=7,bytes:=96,zero:=some [Value.int IntKind.i64 (0),Value.int IntKind.i64 (0),Value.int IntKind.i64 (0),Value.string { data:={ toList:=[] } },Value.string { data:={ toList:=[] } },Value.slice none 0 0,Value.string { data:={ toList:=[] } }],kind:=TK.struct [(0,6,true),(6,1,false)] }:=by kernel_rfl
@[simp] theorem tinf62:tinf Tryz.prog 62=some { size:=5,bytes:=88,zero:=some [Value.int IntKind.i64 (0),Value.string { data:={ toList:=[] } },Value.slice none 0 0,Value.string { data:={ toList:=[] } },Value.slice none 0 0],kind:=TK.struct [(0,1,false),(1,3,true),(4,1,false)] }:=by kernel_rfl
@[simp] theorem tinf68:tinf Tryz.prog 68=some { size:=1,bytes:=24,zero:=some [Value.slice none 0 0],kind:=TK.slice 73 }:=by kernel_rfl
@[simp] theorem tinf71:tinf Tryz.prog 71=some { size:=2,bytes:=32,zero:=some [Value.slice none 0 0,Value.int IntKind.i64 (0)],kind:=TK.struct [(0,1,false),(1,1,false)] }:=by kernel_rfl
@[simp] theorem tinf73:tinf Tryz.prog 73=some { size:=3,bytes:=32,zero:=some [Value.int IntKind.i64 (0),Value.string { data:={ toList:=[] } },Value.int IntKind.i64 (0)],kind:=TK.struct [(0,1,false),(1,1,false),(2,1,false)] }:=by kernel_rfl
@[simp] theorem tinf78:tinf Tryz.prog 78=some { size:=1,bytes:=24,zero:=some [Value.slice none 0 0],kind:=TK.slice 28 }:=by kernel_rfl
@[simp] theorem tinf89:tinf Tryz.prog 89=some { size:=1,bytes:=24,zero:=some [Value.slice none 0 0],kind:=TK.slice 30 }:=by kernel_rfl
@[simp] theorem tinf92:tinf Tryz.prog 92=some { size:=3,bytes:=32,zero:=some [Value.int IntKind.i64 (0),Value.int IntKind.i64 (0),Value.string { data:={ toList:=[] } }],kind:=TK.struct [(0,1,false),(1,1,false),(2,1,false)] }:=by kernel_rfl
@[simp] theorem tinf105:tinf Tryz.prog 105=some { size:=1,bytes:=24,zero:=some [Value.slice none 0 0],kind:=TK.slice 92 }:=by kernel_rfl
end Go.Proofs.Tryz
