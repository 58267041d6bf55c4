/- What is known of the program's types. Printed by types.py. -/
import Derived.Test.YtckddobnichkhaaGreatDoorAbB
import Derived.Test.YtckddobnichkhaaGreatDoorProg
set_option linter.all false
namespace Go.Proofs.Tryz
open Go.Ab
noncomputable def En:Env:=⟨Tryz.prog,fun _=>none⟩
@[simp] theorem En_P:En.P=Tryz.prog:=id rfl
@[simp] theorem En_G (g:Nat):En.G g=none:=rfl
theorem mix:En.P.follows .mixedOrders=true:=by kernel_rfl
@[simp] theorem tinf1:tinf Tryz.prog 1=some { size:=1,bytes:=8,zero:=some [Value.nilFunc],kind:=TK.other }:=by kernel_rfl
@[simp] theorem tinf2:tinf Tryz.prog 2=some { size:=1,bytes:=8,zero:=some [Value.int IntKind.i64 (0)],kind:=TK.int IntKind.i64 }:=by kernel_rfl
@[simp] theorem tinf3:tinf Tryz.prog 3=some { size:=1,bytes:=8,zero:=some [Value.int IntKind.i64 (0)],kind:=TK.int IntKind.i64 }:=by kernel_rfl
@[simp] theorem tinf4:tinf Tryz.prog 4=some { size:=1,bytes:=1,zero:=some [Value.bool false],kind:=TK.bool }:=by kernel_rfl
@[simp] theorem tinf5:tinf Tryz.prog 5=some { size:=1,bytes:=1,zero:=some [Value.int IntKind.u8 (0)],kind:=TK.int IntKind.u8 }:=by kernel_rfl
@[simp] theorem tinf6:tinf Tryz.prog 6=some { size:=1,bytes:=1,zero:=some [Value.int IntKind.u8 (0)],kind:=TK.int IntKind.u8 }:=by kernel_rfl
@[simp] theorem tinf7:tinf Tryz.prog 7=some { size:=4,bytes:=24,zero:=some [Value.int IntKind.i64 (0),Value.int IntKind.i64 (0),Value.bool false,Value.int IntKind.u8 (0)],kind:=TK.struct [(0,1,false),(1,1,false),(2,1,false),(3,1,false)] }:=by kernel_rfl
@[simp] theorem plain7:plainKinds Tryz.prog 7=some [TK.int IntKind.i64,TK.int IntKind.i64,TK.bool,TK.int IntKind.u8]:=by kernel_rfl
@[simp] theorem tinf8:tinf Tryz.prog 8=some { size:=4,bytes:=24,zero:=some [Value.int IntKind.i64 (0),Value.int IntKind.i64 (0),Value.bool false,Value.int IntKind.u8 (0)],kind:=TK.struct [(0,1,false),(1,1,false),(2,1,false),(3,1,false)] }:=by kernel_rfl
@[simp] theorem plain8:plainKinds Tryz.prog 8=some [TK.int IntKind.i64,TK.int IntKind.i64,TK.bool,TK.int IntKind.u8]:=by kernel_rfl
@[simp] theorem tinf9:tinf Tryz.prog 9=some { size:=1,bytes:=16,zero:=some [Value.string { data:={ toList:=[] } }],kind:=TK.string }:=by kernel_rfl
@[simp] theorem tinf10:tinf Tryz.prog 10=some { size:=1,bytes:=16,zero:=some [Value.string { data:={ toList:=[] } }],kind:=TK.string }:=by kernel_rfl
@[simp] theorem tinf11:tinf Tryz.prog 11=some { size:=1,bytes:=16,zero:=some [Value.string { data:={ toList:=[] } }],kind:=TK.string }:=by kernel_rfl
@[simp] theorem tinf12:tinf Tryz.prog 12=some { size:=1,bytes:=8,zero:=some [Value.int IntKind.u64 (0)],kind:=TK.int IntKind.u64 }:=by kernel_rfl
@[simp] theorem tinf13:tinf Tryz.prog 13=some { size:=2,bytes:=24,zero:=some [Value.string { data:={ toList:=[] } },Value.int IntKind.u64 (0)],kind:=TK.struct [(0,1,false),(1,1,false)] }:=by kernel_rfl
@[simp] theorem tinf14:tinf Tryz.prog 14=some { size:=2,bytes:=24,zero:=some [Value.string { data:={ toList:=[] } },Value.int IntKind.u64 (0)],kind:=TK.struct [(0,1,false),(1,1,false)] }:=by kernel_rfl
@[simp] theorem tinf15:tinf Tryz.prog 15=some { size:=1,bytes:=8,zero:=some [Value.pointer none],kind:=TK.other }:=by kernel_rfl
@[simp] theorem tinf16:tinf Tryz.prog 16=some { size:=1,bytes:=8,zero:=some [Value.pointer none],kind:=TK.other }:=by kernel_rfl
@[simp] theorem tinf17:tinf Tryz.prog 17=some { size:=1,bytes:=8,zero:=some [Value.pointer none],kind:=TK.other }:=by kernel_rfl
@[simp] theorem tinf18:tinf Tryz.prog 18=some { size:=1,bytes:=8,zero:=some [Value.pointer none],kind:=TK.struct [(0,1,false)] }:=by kernel_rfl
@[simp] theorem tinf19:tinf Tryz.prog 19=some { size:=1,bytes:=8,zero:=some [Value.pointer none],kind:=TK.struct [(0,1,false)] }:=by kernel_rfl
@[simp] theorem tinf20:tinf Tryz.prog 20=some { size:=1,bytes:=16,zero:=some [Value.nilIface],kind:=TK.other }:=by kernel_rfl
@[simp] theorem tinf21:tinf Tryz.prog 21=some { size:=1,bytes:=4,zero:=some [Value.int IntKind.i32 (0)],kind:=TK.int IntKind.i32 }:=by kernel_rfl
@[simp] theorem tinf22:tinf Tryz.prog 22=some { size:=1,bytes:=24,zero:=some [Value.slice none 0 0],kind:=TK.slice 3 }:=by kernel_rfl
@[simp] theorem tinf23:tinf Tryz.prog 23=some { size:=1,bytes:=8,zero:=some [Value.nilFunc],kind:=TK.other }:=by kernel_rfl
@[simp] theorem tinf24:tinf Tryz.prog 24=some { size:=1,bytes:=24,zero:=some [Value.slice none 0 0],kind:=TK.slice 9 }:=by kernel_rfl
@[simp] theorem tinf25:tinf Tryz.prog 25=some { size:=1,bytes:=24,zero:=some [Value.slice none 0 0],kind:=TK.slice 27 }:=by kernel_rfl
@[simp] theorem tinf26:tinf Tryz.prog 26=some { size:=6,bytes:=80,zero:=some [Value.int IntKind.i64 (0),Value.int IntKind.i64 (0),Value.int IntKind.i64 (0),Value.string { data:={ toList:=[] } },Value.string { data:={ toList:=[] } },Value.slice none 0 0],kind:=TK.struct [(0,1,false),(1,1,false),(2,1,false),(3,1,false),(4,1,false),(5,1,false)] }:=by kernel_rfl
@[simp] theorem plain26:plainKinds Tryz.prog 26=some [TK.int IntKind.i64,TK.int IntKind.i64,TK.int IntKind.i64,TK.string,TK.string,TK.slice 27]:=by kernel_rfl
@[simp] theorem tinf27:tinf Tryz.prog 27=some { size:=6,bytes:=80,zero:=some [Value.int IntKind.i64 (0),Value.int IntKind.i64 (0),Value.int IntKind.i64 (0),Value.string { data:={ toList:=[] } },Value.string { data:={ toList:=[] } },Value.slice none 0 0],kind:=TK.struct [(0,1,false),(1,1,false),(2,1,false),(3,1,false),(4,1,false),(5,1,false)] }:=by kernel_rfl
@[simp] theorem plain27:plainKinds Tryz.prog 27=some [TK.int IntKind.i64,TK.int IntKind.i64,TK.int IntKind.i64,TK.string,TK.string,TK.slice 27]:=by kernel_rfl
@[simp] theorem tinf28:tinf Tryz.prog 28=some { size:=1,bytes:=8,zero:=some [Value.int IntKind.i64 (0)],kind:=TK.int IntKind.i64 }:=by kernel_rfl
@[simp] theorem tinf30:tinf Tryz.prog 30=some { size:=1,bytes:=8,zero:=some [Value.nilFunc],kind:=TK.other }:=by kernel_rfl
@[simp] theorem tinf31:tinf Tryz.prog 31=some { size:=1,bytes:=8,zero:=some [Value.nilFunc],kind:=TK.other }:=by kernel_rfl
@[simp] theorem tinf32:tinf Tryz.prog 32=some { size:=1,bytes:=8,zero:=some [Value.nilFunc],kind:=TK.other }:=by kernel_rfl
@[simp] theorem tinf33:tinf Tryz.prog 33=some { size:=1,bytes:=8,zero:=some [Value.pointer none],kind:=TK.other }:=by kernel_rfl
@[simp] theorem tinf34:tinf Tryz.prog 34=some { size:=2,bytes:=32,zero:=some [Value.slice none 0 0,Value.int IntKind.i64 (0)],kind:=TK.struct [(0,1,false),(1,1,false)] }:=by kernel_rfl
@[simp] theorem plain34:plainKinds Tryz.prog 34=some [TK.slice 3,TK.int IntKind.i64]:=by kernel_rfl
@[simp] theorem tinf35:tinf Tryz.prog 35=some { size:=2,bytes:=32,zero:=some [Value.slice none 0 0,Value.int IntKind.i64 (0)],kind:=TK.struct [(0,1,false),(1,1,false)] }:=by kernel_rfl
@[simp] theorem plain35:plainKinds Tryz.prog 35=some [TK.slice 3,TK.int IntKind.i64]:=by kernel_rfl
@[simp] theorem tinf36:tinf Tryz.prog 36=some { size:=1,bytes:=8,zero:=some [Value.nilFunc],kind:=TK.other }:=by kernel_rfl
@[simp] theorem tinf37:tinf Tryz.prog 37=some { size:=1,bytes:=8,zero:=some [Value.nilFunc],kind:=TK.other }:=by kernel_rfl
@[simp] theorem tinf39:tinf Tryz.prog 39=some { size:=1,bytes:=8,zero:=some [Value.nilFunc],kind:=TK.other }:=by kernel_rfl
@[simp] theorem tinf40:tinf Tryz.prog 40=some { size:=1,bytes:=8,zero:=some [Value.pointer none],kind:=TK.other }:=by kernel_rfl
@[simp] theorem tinf41:tinf Tryz.prog 41=some { size:=1,bytes:=8,zero:=some [Value.nilFunc],kind:=TK.other }:=by kernel_rfl
@[simp] theorem tinf42:tinf Tryz.prog 42=some { size:=1,bytes:=8,zero:=some [Value.nilFunc],kind:=TK.other }:=by kernel_rfl
@[simp] theorem tinf43:tinf Tryz.prog 43=some { size:=1,bytes:=8,zero:=some [Value.nilFunc],kind:=TK.other }:=by kernel_rfl
@[simp] theorem tinf44:tinf Tryz.prog 44=some { size:=1,bytes:=8,zero:=some [Value.pointer none],kind:=TK.other }:=by kernel_rfl
@[simp] theorem tinf45:tinf Tryz.prog 45=some { size:=1,bytes:=8,zero:=some [Value.nilFunc],kind:=TK.other }:=by kernel_rfl
@[simp] theorem tinf46:tinf Tryz.prog 46=some { size:=5,bytes:=48,zero:=some [Value.int IntKind.i64 (0),Value.string { data:={ toList:=[] } },Value.int IntKind.i64 (0),Value.int IntKind.i64 (0),Value.int IntKind.i64 (0)],kind:=TK.struct [(0,1,false),(1,1,false),(2,1,false),(3,1,false),(4,1,false)] }:=by kernel_rfl
@[simp] theorem plain46:plainKinds Tryz.prog 46=some [TK.int IntKind.i64,TK.string,TK.int IntKind.i64,TK.int IntKind.i64,TK.int IntKind.i64]:=by kernel_rfl
@[simp] theorem tinf47:tinf Tryz.prog 47=some { size:=5,bytes:=48,zero:=some [Value.int IntKind.i64 (0),Value.string { data:={ toList:=[] } },Value.int IntKind.i64 (0),Value.int IntKind.i64 (0),Value.int IntKind.i64 (0)],kind:=TK.struct [(0,1,false),(1,1,false),(2,1,false),(3,1,false),(4,1,false)] }:=by kernel_rfl
@[simp] theorem plain47:plainKinds Tryz.prog 47=some [TK.int IntKind.i64,TK.string,TK.int IntKind.i64,TK.int IntKind.i64,TK.int IntKind.i64]:=by kernel_rfl
@[simp] theorem tinf48:tinf Tryz.prog 48=some { size:=7,bytes:=72,zero:=some [Value.string { data:={ toList:=[] } },Value.int IntKind.i64 (0),Value.string { data:={ toList:=[] } },Value.int IntKind.i64 (0),Value.int IntKind.i64 (0),Value.int IntKind.i64 (0),Value.int IntKind.i64 (0)],kind:=TK.struct [(0,1,false),(1,5,true),(6,1,false)] }:=by kernel_rfl
@[simp] theorem plain48:plainKinds Tryz.prog 48=some [TK.string,TK.int IntKind.i64,TK.string,TK.int IntKind.i64,TK.int IntKind.i64,TK.int IntKind.i64,TK.int IntKind.i64]:=by kernel_rfl
@[simp] theorem tinf49:tinf Tryz.prog 49=some { size:=7,bytes:=72,zero:=some [Value.string { data:={ toList:=[] } },Value.int IntKind.i64 (0),Value.string { data:={ toList:=[] } },Value.int IntKind.i64 (0),Value.int IntKind.i64 (0),Value.int IntKind.i64 (0),Value.int IntKind.i64 (0)],kind:=TK.struct [(0,1,false),(1,5,true),(6,1,false)] }:=by kernel_rfl
@[simp] theorem plain49:plainKinds Tryz.prog 49=some [TK.string,TK.int IntKind.i64,TK.string,TK.int IntKind.i64,TK.int IntKind.i64,TK.int IntKind.i64,TK.int IntKind.i64]:=by kernel_rfl
@[simp] theorem tinf50:tinf Tryz.prog 50=some { size:=1,bytes:=8,zero:=some [Value.nilFunc],kind:=TK.other }:=by kernel_rfl
@[simp] theorem tinf51:tinf Tryz.prog 51=some { size:=1,bytes:=8,zero:=some [Value.int IntKind.i64 (0)],kind:=TK.struct [(0,1,false)] }:=by kernel_rfl
@[simp] theorem plain51:plainKinds Tryz.prog 51=some [TK.int IntKind.i64]:=by kernel_rfl
@[simp] theorem tinf52:tinf Tryz.prog 52=some { size:=1,bytes:=8,zero:=some [Value.int IntKind.i64 (0)],kind:=TK.struct [(0,1,false)] }:=by kernel_rfl
@[simp] theorem plain52:plainKinds Tryz.prog 52=some [TK.int IntKind.i64]:=by kernel_rfl
@[simp] theorem tinf53:tinf Tryz.prog 53=some { size:=1,bytes:=24,zero:=some [Value.slice none 0 0],kind:=TK.slice 58 }:=by kernel_rfl
@[simp] theorem tinf54:tinf Tryz.prog 54=some { size:=1,bytes:=8,zero:=some [Value.nilFunc],kind:=TK.other }:=by kernel_rfl
@[simp] theorem tinf55:tinf Tryz.prog 55=some { size:=2,bytes:=32,zero:=some [Value.slice none 0 0,Value.int IntKind.i64 (0)],kind:=TK.struct [(0,1,false),(1,1,false)] }:=by kernel_rfl
@[simp] theorem plain55:plainKinds Tryz.prog 55=some [TK.slice 58,TK.int IntKind.i64]:=by kernel_rfl
@[simp] theorem tinf56:tinf Tryz.prog 56=some { size:=2,bytes:=32,zero:=some [Value.slice none 0 0,Value.int IntKind.i64 (0)],kind:=TK.struct [(0,1,false),(1,1,false)] }:=by kernel_rfl
@[simp] theorem plain56:plainKinds Tryz.prog 56=some [TK.slice 58,TK.int IntKind.i64]:=by kernel_rfl
@[simp] theorem tinf57:tinf Tryz.prog 57=some { size:=3,bytes:=32,zero:=some [Value.int IntKind.i64 (0),Value.string { data:={ toList:=[] } },Value.int IntKind.i64 (0)],kind:=TK.struct [(0,1,false),(1,1,false),(2,1,false)] }:=by kernel_rfl
@[simp] theorem plain57:plainKinds Tryz.prog 57=some [TK.int IntKind.i64,TK.string,TK.int IntKind.i64]:=by kernel_rfl
@[simp] theorem tinf58:tinf Tryz.prog 58=some { size:=3,bytes:=32,zero:=some [Value.int IntKind.i64 (0),Value.string { data:={ toList:=[] } },Value.int IntKind.i64 (0)],kind:=TK.struct [(0,1,false),(1,1,false),(2,1,false)] }:=by kernel_rfl
@[simp] theorem plain58:plainKinds Tryz.prog 58=some [TK.int IntKind.i64,TK.string,TK.int IntKind.i64]:=by kernel_rfl
@[simp] theorem tinf59:tinf Tryz.prog 59=some { size:=1,bytes:=8,zero:=some [Value.nilFunc],kind:=TK.other }:=by kernel_rfl
@[simp] theorem tinf60:tinf Tryz.prog 60=some { size:=1,bytes:=8,zero:=some [Value.nilFunc],kind:=TK.other }:=by kernel_rfl
@[simp] theorem tinf61:tinf Tryz.prog 61=some { size:=1,bytes:=8,zero:=some [Value.nilFunc],kind:=TK.other }:=by kernel_rfl
@[simp] theorem tinf62:tinf Tryz.prog 62=some { size:=1,bytes:=8,zero:=some [Value.nilFunc],kind:=TK.other }:=by kernel_rfl
@[simp] theorem tinf63:tinf Tryz.prog 63=some { size:=1,bytes:=8,zero:=some [Value.nilFunc],kind:=TK.other }:=by kernel_rfl
@[simp] theorem tinf64:tinf Tryz.prog 64=some { size:=1,bytes:=8,zero:=some [Value.nilFunc],kind:=TK.other }:=by kernel_rfl
@[simp] theorem tinf65:tinf Tryz.prog 65=some { size:=1,bytes:=8,zero:=some [Value.nilFunc],kind:=TK.other }:=by kernel_rfl
@[simp] theorem tinf67:tinf Tryz.prog 67=some { size:=1,bytes:=8,zero:=some [Value.nilFunc],kind:=TK.other }:=by kernel_rfl
@[simp] theorem tinf68:tinf Tryz.prog 68=some { size:=1,bytes:=8,zero:=some [Value.nilFunc],kind:=TK.other }:=by kernel_rfl
@[simp] theorem tinf69:tinf Tryz.prog 69=some { size:=1,bytes:=8,zero:=some [Value.nilFunc],kind:=TK.other }:=by kernel_rfl
@[simp] theorem tinf70:tinf Tryz.prog 70=some { size:=3,bytes:=32,zero:=some [Value.int IntKind.i64 (0),Value.int IntKind.i64 (0),Value.string { data:={ toList:=[] } }],kind:=TK.struct [(0,1,false),(1,1,false),(2,1,false)] }:=by kernel_rfl
@[simp] theorem plain70:plainKinds Tryz.prog 70=some [TK.int IntKind.i64,TK.int IntKind.i64,TK.string]:=by kernel_rfl
@[simp] theorem tinf71:tinf Tryz.prog 71=some { size:=3,bytes:=32,zero:=some [Value.int IntKind.i64 (0),Value.int IntKind.i64 (0),Value.string { data:={ toList:=[] } }],kind:=TK.struct [(0,1,false),(1,1,false),(2,1,false)] }:=by kernel_rfl
@[simp] theorem plain71:plainKinds Tryz.prog 71=some [TK.int IntKind.i64,TK.int IntKind.i64,TK.string]:=by kernel_rfl
@[simp] theorem tinf73:tinf Tryz.prog 73=some { size:=1,bytes:=8,zero:=some [Value.nilFunc],kind:=TK.other }:=by kernel_rfl
@[simp] theorem tinf74:tinf Tryz.prog 74=some { size:=1,bytes:=8,zero:=some [Value.nilFunc],kind:=TK.other }:=by kernel_rfl
@[simp] theorem tinf75:tinf Tryz.prog 75=some { size:=1,bytes:=8,zero:=some [Value.nilFunc],kind:=TK.other }:=by kernel_rfl
@[simp] theorem tinf76:tinf Tryz.prog 76=some { size:=1,bytes:=8,zero:=some [Value.nilFunc],kind:=TK.other }:=by kernel_rfl
@[simp] theorem tinf77:tinf Tryz.prog 77=some { size:=1,bytes:=8,zero:=some [Value.nilFunc],kind:=TK.other }:=by kernel_rfl
@[simp] theorem tinf78:tinf Tryz.prog 78=some { size:=1,bytes:=24,zero:=some [Value.slice none 0 0],kind:=TK.slice 71 }:=by kernel_rfl
@[simp] theorem tinf79:tinf Tryz.prog 79=some { size:=1,bytes:=8,zero:=some [Value.nilFunc],kind:=TK.other }:=by kernel_rfl
@[simp] theorem tinf80:tinf Tryz.prog 80=some { size:=1,bytes:=8,zero:=some [Value.nilFunc],kind:=TK.other }:=by kernel_rfl
@[simp] theorem tinf81:tinf Tryz.prog 81=some { size:=1,bytes:=8,zero:=some [Value.nilFunc],kind:=TK.other }:=by kernel_rfl
@[simp] theorem tinf82:tinf Tryz.prog 82=some { size:=1,bytes:=8,zero:=some [Value.nilFunc],kind:=TK.other }:=by kernel_rfl
@[simp] theorem tinf83:tinf Tryz.prog 83=some { size:=1,bytes:=16,zero:=some [Value.nilIface],kind:=TK.other }:=by kernel_rfl
@[simp] theorem tinf84:tinf Tryz.prog 84=some { size:=1,bytes:=16,zero:=some [Value.nilIface],kind:=TK.other }:=by kernel_rfl
@[simp] theorem tinf86:tinf Tryz.prog 86=some { size:=1,bytes:=8,zero:=some [Value.nilFunc],kind:=TK.other }:=by kernel_rfl
@[simp] theorem tinf87:tinf Tryz.prog 87=some { size:=1,bytes:=8,zero:=some [Value.nilFunc],kind:=TK.other }:=by kernel_rfl
@[simp] theorem tinf88:tinf Tryz.prog 88=some { size:=1,bytes:=8,zero:=some [Value.nilFunc],kind:=TK.other }:=by kernel_rfl
@[simp] theorem tinf89:tinf Tryz.prog 89=some { size:=1,bytes:=8,zero:=some [Value.nilFunc],kind:=TK.other }:=by kernel_rfl
@[simp] theorem tinf90:tinf Tryz.prog 90=some { size:=1,bytes:=8,zero:=some [Value.nilFunc],kind:=TK.other }:=by kernel_rfl
@[simp] theorem tinf91:tinf Tryz.prog 91=some { size:=1,bytes:=8,zero:=some [Value.nilFunc],kind:=TK.other }:=by kernel_rfl
@[simp] theorem tinf92:tinf Tryz.prog 92=some { size:=1,bytes:=8,zero:=some [Value.nilFunc],kind:=TK.other }:=by kernel_rfl
@[simp] theorem tinf93:tinf Tryz.prog 93=some { size:=1,bytes:=8,zero:=some [Value.int IntKind.i64 (0)],kind:=TK.int IntKind.i64 }:=by kernel_rfl
@[simp] theorem tinf94:tinf Tryz.prog 94=some { size:=1,bytes:=8,zero:=some [Value.int IntKind.u64 (0)],kind:=TK.int IntKind.u64 }:=by kernel_rfl
@[simp] theorem tinf96:tinf Tryz.prog 96=some { size:=1,bytes:=8,zero:=some [Value.nilFunc],kind:=TK.other }:=by kernel_rfl
@[simp] theorem tinf97:tinf Tryz.prog 97=some { size:=1,bytes:=8,zero:=some [Value.int IntKind.u64 (0)],kind:=TK.int IntKind.u64 }:=by kernel_rfl
@[simp] theorem tinf98:tinf Tryz.prog 98=some { size:=1,bytes:=8,zero:=some [Value.pointer none],kind:=TK.other }:=by kernel_rfl
@[simp] theorem tinf99:tinf Tryz.prog 99=some { size:=1,bytes:=8,zero:=some [Value.nilFunc],kind:=TK.other }:=by kernel_rfl
@[simp] theorem tinf100:tinf Tryz.prog 100=some { size:=1,bytes:=8,zero:=some [Value.nilFunc],kind:=TK.other }:=by kernel_rfl
@[simp] theorem tinf101:tinf Tryz.prog 101=some { size:=1,bytes:=8,zero:=some [Value.nilFunc],kind:=TK.other }:=by kernel_rfl
@[simp] theorem tinf102:tinf Tryz.prog 102=some { size:=1,bytes:=8,zero:=some [Value.nilFunc],kind:=TK.other }:=by kernel_rfl
@[simp] theorem tinf103:tinf Tryz.prog 103=some { size:=1,bytes:=8,zero:=some [Value.nilFunc],kind:=TK.other }:=by kernel_rfl
@[simp] theorem tinf104:tinf Tryz.prog 104=some { size:=24,bytes:=24,zero:=some [Value.int IntKind.u8 (0),Value.int IntKind.u8 (0),Value.int IntKind.u8 (0),Value.int IntKind.u8 (0),Value.int IntKind.u8 (0),Value.int IntKind.u8 (0),Value.int IntKind.u8 (0),Value.int IntKind.u8 (0),Value.int IntKind.u8 (0),Value.int IntKind.u8 (0),Value.int IntKind.u8 (0),Value.int IntKind.u8 (0),Value.int IntKind.u8 (0),Value.int IntKind.u8 (0),Value.int IntKind.u8 (0),Value.int IntKind.u8 (0),Value.int IntKind.u8 (0),Value.int IntKind.u8 (0),Value.int IntKind.u8 (0),Value.int IntKind.u8 (0),Value.int IntKind.u8 (0),Value.int IntKind.u8 (0),Value.int IntKind.u8 (0),Value.int IntKind.u8 (0)],kind:=TK.array 24 5 }:=by kernel_rfl
@[simp] theorem tinf105:tinf Tryz.prog 105=some { size:=1,bytes:=8,zero:=some [Value.nilFunc],kind:=TK.other }:=by kernel_rfl
@[simp] theorem tinf106:tinf Tryz.prog 106=some { size:=1,bytes:=8,zero:=some [Value.nilFunc],kind:=TK.other }:=by kernel_rfl
@[simp] theorem tinf107:tinf Tryz.prog 107=some { size:=1,bytes:=24,zero:=some [Value.slice none 0 0],kind:=TK.slice 5 }:=by kernel_rfl
@[simp] theorem tinf109:tinf Tryz.prog 109=some { size:=1,bytes:=8,zero:=some [Value.nilFunc],kind:=TK.other }:=by kernel_rfl
@[simp] theorem tinf110:tinf Tryz.prog 110=some { size:=1,bytes:=8,zero:=some [Value.nilFunc],kind:=TK.other }:=by kernel_rfl
@[simp] theorem tinf111:tinf Tryz.prog 111=some { size:=1,bytes:=8,zero:=some [Value.nilFunc],kind:=TK.other }:=by kernel_rfl
@[simp] theorem tinf112:tinf Tryz.prog 112=some { size:=3,bytes:=48,zero:=some [Value.string { data:={ toList:=[] } },Value.string { data:={ toList:=[] } },Value.nilIface],kind:=TK.struct [(0,1,false),(1,1,false),(2,1,false)] }:=by kernel_rfl
@[simp] theorem tinf113:tinf Tryz.prog 113=some { size:=3,bytes:=48,zero:=some [Value.string { data:={ toList:=[] } },Value.string { data:={ toList:=[] } },Value.nilIface],kind:=TK.struct [(0,1,false),(1,1,false),(2,1,false)] }:=by kernel_rfl
@[simp] theorem tinf114:tinf Tryz.prog 114=some { size:=1,bytes:=8,zero:=some [Value.nilFunc],kind:=TK.other }:=by kernel_rfl
@[simp] theorem tinf115:tinf Tryz.prog 115=some { size:=1,bytes:=8,zero:=some [Value.nilFunc],kind:=TK.other }:=by kernel_rfl
@[simp] theorem tinf116:tinf Tryz.prog 116=some { size:=1,bytes:=8,zero:=some [Value.nilFunc],kind:=TK.other }:=by kernel_rfl
@[simp] theorem tinf117:tinf Tryz.prog 117=some { size:=20,bytes:=160,zero:=some [Value.int IntKind.u64 (0),Value.int IntKind.u64 (0),Value.int IntKind.u64 (0),Value.int IntKind.u64 (0),Value.int IntKind.u64 (0),Value.int IntKind.u64 (0),Value.int IntKind.u64 (0),Value.int IntKind.u64 (0),Value.int IntKind.u64 (0),Value.int IntKind.u64 (0),Value.int IntKind.u64 (0),Value.int IntKind.u64 (0),Value.int IntKind.u64 (0),Value.int IntKind.u64 (0),Value.int IntKind.u64 (0),Value.int IntKind.u64 (0),Value.int IntKind.u64 (0),Value.int IntKind.u64 (0),Value.int IntKind.u64 (0),Value.int IntKind.u64 (0)],kind:=TK.array 20 94 }:=by kernel_rfl
@[simp] theorem tinf118:tinf Tryz.prog 118=some { size:=1,bytes:=4,zero:=some [Value.int IntKind.u32 (0)],kind:=TK.int IntKind.u32 }:=by kernel_rfl
@[simp] theorem tinf119:tinf Tryz.prog 119=some { size:=65,bytes:=65,zero:=some [Value.int IntKind.u8 (0),Value.int IntKind.u8 (0),Value.int IntKind.u8 (0),Value.int IntKind.u8 (0),Value.int IntKind.u8 (0),Value.int IntKind.u8 (0),Value.int IntKind.u8 (0),Value.int IntKind.u8 (0),Value.int IntKind.u8 (0),Value.int IntKind.u8 (0),Value.int IntKind.u8 (0),Value.int IntKind.u8 (0),Value.int IntKind.u8 (0),Value.int IntKind.u8 (0),Value.int IntKind.u8 (0),Value.int IntKind.u8 (0),Value.int IntKind.u8 (0),Value.int IntKind.u8 (0),Value.int IntKind.u8 (0),Value.int IntKind.u8 (0),Value.int IntKind.u8 (0),Value.int IntKind.u8 (0),Value.int IntKind.u8 (0),Value.int IntKind.u8 (0),Value.int IntKind.u8 (0),Value.int IntKind.u8 (0),Value.int IntKind.u8 (0),Value.int IntKind.u8 (0),Value.int IntKind.u8 (0),Value.int IntKind.u8 (0),Value.int IntKind.u8 (0),Value.int IntKind.u8 (0),Value.int IntKind.u8 (0),Value.int IntKind.u8 (0),Value.int IntKind.u8 (0),Value.int IntKind.u8 (0),Value.int IntKind.u8 (0),Value.int IntKind.u8 (0),Value.int IntKind.u8 (0),Value.int IntKind.u8 (0),Value.int IntKind.u8 (0),Value.int IntKind.u8 (0),Value.int IntKind.u8 (0),Value.int IntKind.u8 (0),Value.int IntKind.u8 (0),Value.int IntKind.u8 (0),Value.int IntKind.u8 (0),Value.int IntKind.u8 (0),Value.int IntKind.u8 (0),Value.int IntKind.u8 (0),Value.int IntKind.u8 (0),Value.int IntKind.u8 (0),Value.int IntKind.u8 (0),Value.int IntKind.u8 (0),Value.int IntKind.u8 (0),Value.int IntKind.u8 (0),Value.int IntKind.u8 (0),Value.int IntKind.u8 (0),Value.int IntKind.u8 (0),Value.int IntKind.u8 (0),Value.int IntKind.u8 (0),Value.int IntKind.u8 (0),Value.int IntKind.u8 (0),Value.int IntKind.u8 (0),Value.int IntKind.u8 (0)],kind:=TK.array 65 5 }:=by kernel_rfl
@[simp] theorem tinf120:tinf Tryz.prog 120=some { size:=1,bytes:=8,zero:=some [Value.nilFunc],kind:=TK.other }:=by kernel_rfl
@[simp] theorem tinf121:tinf Tryz.prog 121=some { size:=1,bytes:=8,zero:=some [Value.nilFunc],kind:=TK.other }:=by kernel_rfl
@[simp] theorem tinf122:tinf Tryz.prog 122=some { size:=1,bytes:=8,zero:=some [Value.pointer none],kind:=TK.other }:=by kernel_rfl
@[simp] theorem tinf123:tinf Tryz.prog 123=some { size:=1,bytes:=8,zero:=some [Value.pointer none],kind:=TK.other }:=by kernel_rfl
@[simp] theorem tinf124:tinf Tryz.prog 124=some { size:=1,bytes:=16,zero:=some [Value.string { data:={ toList:=[] } }],kind:=TK.struct [(0,1,false)] }:=by kernel_rfl
@[simp] theorem plain124:plainKinds Tryz.prog 124=some [TK.string]:=by kernel_rfl
@[simp] theorem tinf125:tinf Tryz.prog 125=some { size:=1,bytes:=16,zero:=some [Value.string { data:={ toList:=[] } }],kind:=TK.struct [(0,1,false)] }:=by kernel_rfl
@[simp] theorem plain125:plainKinds Tryz.prog 125=some [TK.string]:=by kernel_rfl
@[simp] theorem tinf126:tinf Tryz.prog 126=some { size:=1,bytes:=8,zero:=some [Value.nilFunc],kind:=TK.other }:=by kernel_rfl
@[simp] theorem tinf127:tinf Tryz.prog 127=some { size:=1,bytes:=8,zero:=some [Value.nilFunc],kind:=TK.other }:=by kernel_rfl
@[simp] theorem tinf128:tinf Tryz.prog 128=some { size:=1,bytes:=8,zero:=some [Value.nilFunc],kind:=TK.other }:=by kernel_rfl
@[simp] theorem tinf129:tinf Tryz.prog 129=some { size:=1,bytes:=8,zero:=some [Value.nilFunc],kind:=TK.other }:=by kernel_rfl
@[simp] theorem tinf130:tinf Tryz.prog 130=some { size:=1,bytes:=8,zero:=some [Value.nilFunc],kind:=TK.other }:=by kernel_rfl
@[simp] theorem tinf131:tinf Tryz.prog 131=some { size:=32,bytes:=32,zero:=some [Value.int IntKind.u8 (0),Value.int IntKind.u8 (0),Value.int IntKind.u8 (0),Value.int IntKind.u8 (0),Value.int IntKind.u8 (0),Value.int IntKind.u8 (0),Value.int IntKind.u8 (0),Value.int IntKind.u8 (0),Value.int IntKind.u8 (0),Value.int IntKind.u8 (0),Value.int IntKind.u8 (0),Value.int IntKind.u8 (0),Value.int IntKind.u8 (0),Value.int IntKind.u8 (0),Value.int IntKind.u8 (0),Value.int IntKind.u8 (0),Value.int IntKind.u8 (0),Value.int IntKind.u8 (0),Value.int IntKind.u8 (0),Value.int IntKind.u8 (0),Value.int IntKind.u8 (0),Value.int IntKind.u8 (0),Value.int IntKind.u8 (0),Value.int IntKind.u8 (0),Value.int IntKind.u8 (0),Value.int IntKind.u8 (0),Value.int IntKind.u8 (0),Value.int IntKind.u8 (0),Value.int IntKind.u8 (0),Value.int IntKind.u8 (0),Value.int IntKind.u8 (0),Value.int IntKind.u8 (0)],kind:=TK.array 32 5 }:=by kernel_rfl
@[simp] theorem tinf132:tinf Tryz.prog 132=some { size:=64,bytes:=64,zero:=some [Value.int IntKind.u8 (0),Value.int IntKind.u8 (0),Value.int IntKind.u8 (0),Value.int IntKind.u8 (0),Value.int IntKind.u8 (0),Value.int IntKind.u8 (0),Value.int IntKind.u8 (0),Value.int IntKind.u8 (0),Value.int IntKind.u8 (0),Value.int IntKind.u8 (0),Value.int IntKind.u8 (0),Value.int IntKind.u8 (0),Value.int IntKind.u8 (0),Value.int IntKind.u8 (0),Value.int IntKind.u8 (0),Value.int IntKind.u8 (0),Value.int IntKind.u8 (0),Value.int IntKind.u8 (0),Value.int IntKind.u8 (0),Value.int IntKind.u8 (0),Value.int IntKind.u8 (0),Value.int IntKind.u8 (0),Value.int IntKind.u8 (0),Value.int IntKind.u8 (0),Value.int IntKind.u8 (0),Value.int IntKind.u8 (0),Value.int IntKind.u8 (0),Value.int IntKind.u8 (0),Value.int IntKind.u8 (0),Value.int IntKind.u8 (0),Value.int IntKind.u8 (0),Value.int IntKind.u8 (0),Value.int IntKind.u8 (0),Value.int IntKind.u8 (0),Value.int IntKind.u8 (0),Value.int IntKind.u8 (0),Value.int IntKind.u8 (0),Value.int IntKind.u8 (0),Value.int IntKind.u8 (0),Value.int IntKind.u8 (0),Value.int IntKind.u8 (0),Value.int IntKind.u8 (0),Value.int IntKind.u8 (0),Value.int IntKind.u8 (0),Value.int IntKind.u8 (0),Value.int IntKind.u8 (0),Value.int IntKind.u8 (0),Value.int IntKind.u8 (0),Value.int IntKind.u8 (0),Value.int IntKind.u8 (0),Value.int IntKind.u8 (0),Value.int IntKind.u8 (0),Value.int IntKind.u8 (0),Value.int IntKind.u8 (0),Value.int IntKind.u8 (0),Value.int IntKind.u8 (0),Value.int IntKind.u8 (0),Value.int IntKind.u8 (0),Value.int IntKind.u8 (0),Value.int IntKind.u8 (0),Value.int IntKind.u8 (0),Value.int IntKind.u8 (0),Value.int IntKind.u8 (0),Value.int IntKind.u8 (0)],kind:=TK.array 64 5 }:=by kernel_rfl
@[simp] theorem tinf133:tinf Tryz.prog 133=some { size:=1,bytes:=8,zero:=some [Value.nilFunc],kind:=TK.other }:=by kernel_rfl
@[simp] theorem tinf135:tinf Tryz.prog 135=some { size:=1,bytes:=8,zero:=some [Value.nilFunc],kind:=TK.other }:=by kernel_rfl
@[simp] theorem tinf136:tinf Tryz.prog 136=some { size:=4,bytes:=40,zero:=some [Value.pointer none,Value.pointer none,Value.pointer none,Value.string { data:={ toList:=[] } }],kind:=TK.struct [(0,1,false),(1,1,false),(2,1,false),(3,1,false)] }:=by kernel_rfl
@[simp] theorem tinf137:tinf Tryz.prog 137=some { size:=4,bytes:=40,zero:=some [Value.pointer none,Value.pointer none,Value.pointer none,Value.string { data:={ toList:=[] } }],kind:=TK.struct [(0,1,false),(1,1,false),(2,1,false),(3,1,false)] }:=by kernel_rfl
@[simp] theorem tinf138:tinf Tryz.prog 138=some { size:=0,bytes:=0,zero:=some [],kind:=TK.array 0 16 }:=by kernel_rfl
@[simp] theorem tinf139:tinf Tryz.prog 139=some { size:=0,bytes:=0,zero:=some [],kind:=TK.struct [(0,0,true)] }:=by kernel_rfl
@[simp] theorem tinf140:tinf Tryz.prog 140=some { size:=0,bytes:=0,zero:=some [],kind:=TK.struct [(0,0,true)] }:=by kernel_rfl
@[simp] theorem tinf141:tinf Tryz.prog 141=some { size:=1,bytes:=8,zero:=some [Value.nilFunc],kind:=TK.other }:=by kernel_rfl
@[simp] theorem tinf142:tinf Tryz.prog 142=some { size:=1,bytes:=1,zero:=some [Value.int IntKind.u8 (0)],kind:=TK.int IntKind.u8 }:=by kernel_rfl
@[simp] theorem tinf143:tinf Tryz.prog 143=some { size:=1,bytes:=1,zero:=some [Value.int IntKind.u8 (0)],kind:=TK.int IntKind.u8 }:=by kernel_rfl
@[simp] theorem tinf144:tinf Tryz.prog 144=some { size:=1,bytes:=8,zero:=some [Value.nilFunc],kind:=TK.other }:=by kernel_rfl
@[simp] theorem tinf145:tinf Tryz.prog 145=some { size:=1,bytes:=4,zero:=some [Value.int IntKind.i32 (0)],kind:=TK.int IntKind.i32 }:=by kernel_rfl
@[simp] theorem tinf146:tinf Tryz.prog 146=some { size:=1,bytes:=4,zero:=some [Value.int IntKind.i32 (0)],kind:=TK.int IntKind.i32 }:=by kernel_rfl
@[simp] theorem tinf147:tinf Tryz.prog 147=some { size:=11,bytes:=48,zero:=some [Value.int IntKind.u64 (0),Value.int IntKind.u64 (0),Value.int IntKind.u32 (0),Value.int IntKind.u8 (0),Value.int IntKind.u8 (0),Value.int IntKind.u8 (0),Value.int IntKind.u8 (0),Value.nilFunc,Value.pointer none,Value.int IntKind.i32 (0),Value.int IntKind.i32 (0)],kind:=TK.struct [(0,1,false),(1,1,false),(2,1,false),(3,1,false),(4,1,false),(5,1,false),(6,1,false),(7,1,false),(8,1,false),(9,1,false),(10,1,false)] }:=by kernel_rfl
@[simp] theorem tinf148:tinf Tryz.prog 148=some { size:=11,bytes:=48,zero:=some [Value.int IntKind.u64 (0),Value.int IntKind.u64 (0),Value.int IntKind.u32 (0),Value.int IntKind.u8 (0),Value.int IntKind.u8 (0),Value.int IntKind.u8 (0),Value.int IntKind.u8 (0),Value.nilFunc,Value.pointer none,Value.int IntKind.i32 (0),Value.int IntKind.i32 (0)],kind:=TK.struct [(0,1,false),(1,1,false),(2,1,false),(3,1,false),(4,1,false),(5,1,false),(6,1,false),(7,1,false),(8,1,false),(9,1,false),(10,1,false)] }:=by kernel_rfl
@[simp] theorem tinf149:tinf Tryz.prog 149=some { size:=1,bytes:=8,zero:=some [Value.pointer none],kind:=TK.other }:=by kernel_rfl
end Go.Proofs.Tryz
