import Derived.Test.YtklnfckiabhceaaGreatDoorAbB
import Derived.Test.YtklnfckiabhceaaGreatDoorProg
set_option linter.all false
namespace Go.Proofs.Tryz
open Go.Ab
noncomputable def En:Env:=⟨Tryz.prog,fun g=>if g=1 then some [.int .i64 0,.int .i64 0,.str []] else none⟩
@[simp] theorem En_P:En.P=Tryz.prog:=id rfl
@[simp] theorem En_G (g:Nat):En.G g=if g=1 then some [.int .i64 0,.int .i64 0,.str []] else none:=rfl
theorem mix:En.P.follows .mixedOrders=true:=by kernel_rfl
@[simp] theorem tinf2:tinf Tryz.prog 2=some { size:=1,bytes:=8,zero:=some [Value.int IntKind.i64 (0)],kind:=TK.int IntKind.i64 }:=by kernel_rfl
@[simp] theorem tinf3:tinf Tryz.prog 3=some { size:=1,bytes:=8,zero:=some [Value.int IntKind.i64 (0)],kind:=TK.int IntKind.i64 }:=by kernel_rfl
@[simp] theorem tinf4:tinf Tryz.prog 4=some { size:=1,bytes:=1,zero:=some [Value.bool false],kind:=TK.bool }:=by kernel_rfl
@[simp] theorem tinf5:tinf Tryz.prog 5=some { size:=1,bytes:=1,zero:=some [Value.int IntKind.u8 (0)],kind:=TK.int IntKind.u8 }:=by kernel_rfl
@[simp] theorem tinf9:tinf Tryz.prog 9=some { size:=1,bytes:=16,zero:=some [Value.string { data:={ toList:=[] } }],kind:=TK.string }:=by kernel_rfl
@[simp] theorem tinf22:tinf Tryz.prog 22=some { size:=1,bytes:=24,zero:=some [Value.slice none 0 0],kind:=TK.slice 3 }:=by kernel_rfl
@[simp] theorem tinf23:tinf Tryz.prog 23=some { size:=1,bytes:=24,zero:=some [Value.slice none 0 0],kind:=TK.slice 37 }:=by kernel_rfl
@[simp] theorem tinf25:tinf Tryz.prog 25=some { size:=1,bytes:=24,zero:=some [Value.slice none 0 0],kind:=TK.struct [(0,1,false)] }:=by kernel_rfl
@[simp] theorem tinf29:tinf Tryz.prog 29=some { size:=2,bytes:=32,zero:=some [Value.slice none 0 0,Value.int IntKind.i64 (0)],kind:=TK.struct [(0,1,false),(1,1,false)] }:=by kernel_rfl
@[simp] theorem tinf32:tinf Tryz.prog 32=some { size:=1,bytes:=24,zero:=some [Value.slice none 0 0],kind:=TK.slice 40 }:=by kernel_rfl
@[simp] theorem tinf33:tinf Tryz.prog 33=some { size:=1,bytes:=24,zero:=some [Value.slice none 0 0],kind:=TK.slice 22 }:=by kernel_rfl
@[simp] theorem tinf34:tinf Tryz.prog 34=some { size:=1,bytes:=24,zero:=some [Value.slice none 0 0],kind:=TK.slice 44 }:=by kernel_rfl
@[simp] theorem tinf35:tinf Tryz.prog 35=some { size:=1,bytes:=24,zero:=some [Value.slice none 0 0],kind:=TK.slice 42 }:=by kernel_rfl
@[simp] theorem tinf37:tinf Tryz.prog 37=some { size:=6,bytes:=136,zero:=some [Value.string { data:={ toList:=[] } },Value.slice none 0 0,Value.slice none 0 0,Value.slice none 0 0,Value.slice none 0 0,Value.slice none 0 0],kind:=TK.struct [(0,1,false),(1,1,false),(2,1,false),(3,1,false),(4,1,false),(5,1,false)] }:=by kernel_rfl
@[simp] theorem tinf40:tinf Tryz.prog 40=some { size:=3,bytes:=32,zero:=some [Value.string { data:={ toList:=[] } },Value.int IntKind.i64 (0),Value.bool false],kind:=TK.struct [(0,1,false),(1,1,false),(2,1,false)] }:=by kernel_rfl
@[simp] theorem tinf42:tinf Tryz.prog 42=some { size:=6,bytes:=72,zero:=some [Value.int IntKind.i64 (0),Value.int IntKind.i64 (0),Value.int IntKind.i64 (0),Value.string { data:={ toList:=[] } },Value.int IntKind.i64 (0),Value.slice none 0 0],kind:=TK.struct [(0,1,false),(1,1,false),(2,1,false),(3,1,false),(4,1,false),(5,1,false)] }:=by kernel_rfl
@[simp] theorem tinf44:tinf Tryz.prog 44=some { size:=2,bytes:=40,zero:=some [Value.slice none 0 0,Value.string { data:={ toList:=[] } }],kind:=TK.struct [(0,1,false),(1,1,false)] }:=by kernel_rfl
@[simp] theorem tinf46:tinf Tryz.prog 46=some { size:=1,bytes:=24,zero:=some [Value.slice none 0 0],kind:=TK.slice 49 }:=by kernel_rfl
@[simp] theorem tinf48:tinf Tryz.prog 48=some { size:=1,bytes:=24,zero:=some [Value.slice none 0 0],kind:=TK.struct [(0,1,false)] }:=by kernel_rfl
@[simp] theorem tinf49:tinf Tryz.prog 49=some { size:=1,bytes:=24,zero:=some [Value.slice none 0 0],kind:=TK.slice 71 }:=by kernel_rfl
@[simp] theorem tinf50:tinf Tryz.prog 50=some { size:=1,bytes:=24,zero:=some [Value.slice none 0 0],kind:=TK.slice 59 }:=by kernel_rfl
@[simp] theorem tinf51:tinf Tryz.prog 51=some { size:=1,bytes:=24,zero:=some [Value.slice none 0 0],kind:=TK.slice 61 }:=by kernel_rfl
@[simp] theorem tinf59:tinf Tryz.prog 59=some { size:=1,bytes:=24,zero:=some [Value.slice none 0 0],kind:=TK.slice 81 }:=by kernel_rfl
@[simp] theorem tinf61:tinf Tryz.prog 61=some { size:=1,bytes:=24,zero:=some [Value.slice none 0 0],kind:=TK.slice 73 }:=by kernel_rfl
@[simp] theorem tinf71:tinf Tryz.prog 71=some { size:=1,bytes:=24,zero:=some [Value.slice none 0 0],kind:=TK.slice 79 }:=by kernel_rfl
@[simp] theorem tinf73:tinf Tryz.prog 73=some { size:=3,bytes:=72,zero:=some [Value.slice none 0 0,Value.slice none 0 0,Value.slice none 0 0],kind:=TK.struct [(0,1,false),(1,1,false),(2,1,false)] }:=by kernel_rfl
@[simp] theorem tinf79:tinf Tryz.prog 79=some { size:=3,bytes:=32,zero:=some [Value.int IntKind.i64 (0),Value.int IntKind.i64 (0),Value.string { data:={ toList:=[] } }],kind:=TK.struct [(0,1,false),(1,1,false),(2,1,false)] }:=by kernel_rfl
@[simp] theorem plain79:plainKinds Tryz.prog 79=some [TK.int IntKind.i64,TK.int IntKind.i64,TK.string]:=by kernel_rfl
@[simp] theorem tinf81:tinf Tryz.prog 81=some { size:=5,bytes:=48,zero:=some [Value.int IntKind.i64 (0),Value.int IntKind.i64 (0),Value.int IntKind.i64 (0),Value.int IntKind.i64 (0),Value.string { data:={ toList:=[] } }],kind:=TK.struct [(0,1,false),(1,1,false),(2,3,true)] }:=by kernel_rfl
@[simp] theorem tinf113:tinf Tryz.prog 113=some { size:=1,bytes:=24,zero:=some [Value.slice none 0 0],kind:=TK.slice 4 }:=by kernel_rfl
@[simp] theorem tinf116:tinf Tryz.prog 116=some { size:=1,bytes:=24,zero:=some [Value.slice none 0 0],kind:=TK.slice 5 }:=by kernel_rfl
@[simp] theorem tinf137:tinf Tryz.prog 137=some { size:=4,bytes:=40,zero:=some [Value.string { data:={ toList:=[] } },Value.int IntKind.i64 (0),Value.int IntKind.i64 (0),Value.int IntKind.i64 (0)],kind:=TK.struct [(0,1,false),(1,1,false),(2,1,false),(3,1,false)] }:=by kernel_rfl
@[simp] theorem tinf159:tinf Tryz.prog 159=some { size:=1,bytes:=24,zero:=some [Value.slice none 0 0],kind:=TK.slice 160 }:=by kernel_rfl
@[simp] theorem tinf160:tinf Tryz.prog 160=some { size:=1,bytes:=8,zero:=some [Value.map none],kind:=TK.other }:=by kernel_rfl
@[simp] theorem tinf168:tinf Tryz.prog 168=some { size:=1,bytes:=24,zero:=some [Value.slice none 0 0],kind:=TK.slice 9 }:=by kernel_rfl
@[simp] theorem tinf174:tinf Tryz.prog 174=some { size:=1,bytes:=24,zero:=some [Value.slice none 0 0],kind:=TK.slice 2 }:=by kernel_rfl
@[simp] theorem tinf192:tinf Tryz.prog 192=some { size:=1,bytes:=8,zero:=some [Value.int IntKind.u64 (0)],kind:=TK.int IntKind.u64 }:=by kernel_rfl
@[simp] theorem tinf198:tinf Tryz.prog 198=some { size:=116,bytes:=1160,zero:=some [Value.string { data:={ toList:=[] } },Value.int IntKind.i64 (0),Value.int IntKind.i64 (0),Value.int IntKind.i64 (0),Value.string { data:={ toList:=[] } },Value.int IntKind.i64 (0),Value.int IntKind.i64 (0),Value.int IntKind.i64 (0),Value.string { data:={ toList:=[] } },Value.int IntKind.i64 (0),Value.int IntKind.i64 (0),Value.int IntKind.i64 (0),Value.string { data:={ toList:=[] } },Value.int IntKind.i64 (0),Value.int IntKind.i64 (0),Value.int IntKind.i64 (0),Value.string { data:={ toList:=[] } },Value.int IntKind.i64 (0),Value.int IntKind.i64 (0),Value.int IntKind.i64 (0),Value.string { data:={ toList:=[] } },Value.int IntKind.i64 (0),Value.int IntKind.i64 (0),Value.int IntKind.i64 (0),Value.string { data:={ toList:=[] } },Value.int IntKind.i64 (0),Value.int IntKind.i64 (0),Value.int IntKind.i64 (0),Value.string { data:={ toList:=[] } },Value.int IntKind.i64 (0),Value.int IntKind.i64 (0),Value.int IntKind.i64 (0),Value.string { data:={ toList:=[] } },Value.int IntKind.i64 (0),Value.int IntKind.i64 (0),Value.int IntKind.i64 (0),Value.string { data:={ toList:=[] } },Value.int IntKind.i64 (0),Value.int IntKind.i64 (0),Value.int IntKind.i64 (0),Value.string { data:={ toList:=[] } },Value.int IntKind.i64 (0),Value.int IntKind.i64 (0),Value.int IntKind.i64 (0),Value.string { data:={ toList:=[] } },Value.int IntKind.i64 (0),Value.int IntKind.i64 (0),Value.int IntKind.i64 (0),Value.string { data:={ toList:=[] } },Value.int IntKind.i64 (0),Value.int IntKind.i64 (0),Value.int IntKind.i64 (0),Value.string { data:={ toList:=[] } },Value.int IntKind.i64 (0),Value.int IntKind.i64 (0),Value.int IntKind.i64 (0),Value.string { data:={ toList:=[] } },Value.int IntKind.i64 (0),Value.int IntKind.i64 (0),Value.int IntKind.i64 (0),Value.string { data:={ toList:=[] } },Value.int IntKind.i64 (0),Value.int IntKind.i64 (0),Value.int IntKind.i64 (0),Value.string { data:={ toList:=[] } },Value.int IntKind.i64 (0),Value.int IntKind.i64 (0),Value.int IntKind.i64 (0),Value.string { data:={ toList:=[] } },Value.int IntKind.i64 (0),Value.int IntKind.i64 (0),Value.int IntKind.i64 (0),Value.string { data:={ toList:=[] } },Value.int IntKind.i64 (0),Value.int IntKind.i64 (0),Value.int IntKind.i64 (0),Value.string { data:={ toList:=[] } },Value.int IntKind.i64 (0),Value.int IntKind.i64 (0),Value.int IntKind.i64 (0),Value.string { data:={ toList:=[] } },Value.int IntKind.i64 (0),Value.int IntKind.i64 (0),Value.int IntKind.i64 (0),Value.string { data:={ toList:=[] } },Value.int IntKind.i64 (0),Value.int IntKind.i64 (0),Value.int IntKind.i64 (0),Value.string { data:={ toList:=[] } },Value.int IntKind.i64 (0),Value.int IntKind.i64 (0),Value.int IntKind.i64 (0),Value.string { data:={ toList:=[] } },Value.int IntKind.i64 (0),Value.int IntKind.i64 (0),Value.int IntKind.i64 (0),Value.string { data:={ toList:=[] } },Value.int IntKind.i64 (0),Value.int IntKind.i64 (0),Value.int IntKind.i64 (0),Value.string { data:={ toList:=[] } },Value.int IntKind.i64 (0),Value.int IntKind.i64 (0),Value.int IntKind.i64 (0),Value.string { data:={ toList:=[] } },Value.int IntKind.i64 (0),Value.int IntKind.i64 (0),Value.int IntKind.i64 (0),Value.string { data:={ toList:=[] } },Value.int IntKind.i64 (0),Value.int IntKind.i64 (0),Value.int IntKind.i64 (0),Value.string { data:={ toList:=[] } },Value.int IntKind.i64 (0),Value.int IntKind.i64 (0),Value.int IntKind.i64 (0)],kind:=TK.array 29 137 }:=by kernel_rfl
@[simp] theorem tinf209:tinf Tryz.prog 209=some { size:=1,bytes:=4,zero:=some [Value.int IntKind.u32 (0)],kind:=TK.int IntKind.u32 }:=by kernel_rfl
@[simp] theorem tinf211:tinf Tryz.prog 211=some { size:=1,bytes:=8,zero:=some [Value.int IntKind.u64 (0)],kind:=TK.int IntKind.u64 }:=by kernel_rfl
@[simp] theorem tinf233:tinf Tryz.prog 233=some { size:=24,bytes:=24,zero:=some [Value.int IntKind.u8 (0),Value.int IntKind.u8 (0),Value.int IntKind.u8 (0),Value.int IntKind.u8 (0),Value.int IntKind.u8 (0),Value.int IntKind.u8 (0),Value.int IntKind.u8 (0),Value.int IntKind.u8 (0),Value.int IntKind.u8 (0),Value.int IntKind.u8 (0),Value.int IntKind.u8 (0),Value.int IntKind.u8 (0),Value.int IntKind.u8 (0),Value.int IntKind.u8 (0),Value.int IntKind.u8 (0),Value.int IntKind.u8 (0),Value.int IntKind.u8 (0),Value.int IntKind.u8 (0),Value.int IntKind.u8 (0),Value.int IntKind.u8 (0),Value.int IntKind.u8 (0),Value.int IntKind.u8 (0),Value.int IntKind.u8 (0),Value.int IntKind.u8 (0)],kind:=TK.array 24 5 }:=by kernel_rfl
end Go.Proofs.Tryz
namespace Go.Proofs.Tryz
open Go.Ab
structure V where
 k:Int
 n:Int
 t:List UInt8
def V.a (v:V):AV:=.agg [.d (.int .i64 v.k),.d (.int .i64 v.n),.d (.str v.t)]
def V.c (v:V):List D:=[.int .i64 v.k,.int .i64 v.n,.str v.t]
end Go.Proofs.Tryz
namespace Go.Proofs.Tryz
open Go.Ab
def V.same (v u:V):Bool:=v.k==u.k&&(v.n==u.n&&v.t==u.t)
def cmpI (a b:Int):Int:=if a<b then -1 else if b<a then 1 else 0
def cmpS (a b:List UInt8):Int:=if Op.bytesLess a b=true then -1 else if a=b then 0 else 1
def orOf:List Int→Int
 | []=>0
 | x::xs=>if x ≠ 0 then x else orOf xs
def V.cmp (v u:V):Int:=orOf [cmpI v.k u.k,cmpI v.n u.n,cmpS v.t u.t]
theorem orOf_drop {l:List Int} {i:Nat} {n:Int} (h:l[i]?=some n):orOf (l.drop i)=if n ≠ 0 then n else orOf (l.drop (i+1)):=by
 obtain ⟨hi,rfl⟩:=List.getElem?_eq_some_iff.1 h
 rw [List.drop_eq_getElem_cons hi,orOf]
theorem isNaN_int (n:Int):Cf En 175 [.d (.int .i64 n)] [] (.d (.bool false)) []:=by
 refine cf_intro mix (fn:=Tryz.f175) (by kernel_rfl) rfl (by kernel_rfl) (by decide) (by simp) ?_
 simp
 exact ⟨.of (by kernel_rfl),.of (by kernel_rfl)⟩
theorem isNaN_int64 (n:Int):Cf En 205 [.d (.int .i64 n)] [] (.d (.bool false)) []:=by
 refine cf_intro mix (fn:=Tryz.f205) (by kernel_rfl) rfl (by kernel_rfl) (by decide) (by simp) ?_
 simp
 exact ⟨.of (by kernel_rfl),.of (by kernel_rfl)⟩
theorem isNaN_string (n:List UInt8):Cf En 206 [.d (.str n)] [] (.d (.bool false)) []:=by
 refine cf_intro mix (fn:=Tryz.f206) (by kernel_rfl) rfl (by kernel_rfl) (by decide) (by simp) ?_
 simp
 exact ⟨.of (by kernel_rfl),.of (by kernel_rfl)⟩
theorem cmp_int (a b:Int):Cf En 140 [.d (.int .i64 a),.d (.int .i64 b)] [] (.d (.int .i64 (cmpI a b))) []:=by
 refine cf_intro mix (fn:=Tryz.f140) (by kernel_rfl) rfl (by kernel_rfl) (by decide) (by simp) ?_
 simp
 refine ⟨.of (by kernel_rfl),acallT_plain (isNaN_int a) (by simp) ?_⟩
 simp
 refine ⟨.of (by kernel_rfl),acallT_plain (isNaN_int b) (by simp) ?_⟩
 simp
 repeat' (first | intro _ | refine And.intro ?_ ?_)
 all_goals first | exact .of (by kernel_rfl) | skip
 all_goals (unfold cmpI; grind)
theorem cmp_int64 (a b:Int):Cf En 176 [.d (.int .i64 a),.d (.int .i64 b)] [] (.d (.int .i64 (cmpI a b))) []:=by
 refine cf_intro mix (fn:=Tryz.f176) (by kernel_rfl) rfl (by kernel_rfl) (by decide) (by simp) ?_
 simp
 refine ⟨.of (by kernel_rfl),acallT_plain (isNaN_int64 a) (by simp) ?_⟩
 simp
 refine ⟨.of (by kernel_rfl),acallT_plain (isNaN_int64 b) (by simp) ?_⟩
 simp
 repeat' (first | intro _ | refine And.intro ?_ ?_)
 all_goals first | exact .of (by kernel_rfl) | skip
 all_goals (unfold cmpI; grind)
theorem cmp_string (a b:List UInt8):Cf En 177 [.d (.str a),.d (.str b)] [] (.d (.int .i64 (cmpS a b))) []:=by
 refine cf_intro mix (fn:=Tryz.f177) (by kernel_rfl) rfl (by kernel_rfl) (by decide) (by simp) ?_
 simp
 refine ⟨.of (by kernel_rfl),acallT_plain (isNaN_string a) (by simp) ?_⟩
 simp
 refine ⟨.of (by kernel_rfl),acallT_plain (isNaN_string b) (by simp) ?_⟩
 simp
 repeat' (first | intro _ | refine And.intro ?_ ?_)
 all_goals first | exact .of (by kernel_rfl) | skip
 all_goals (unfold cmpS; grind)
theorem or_int (l:List Int) (hl:l.length≤1000000):Cf En 139 [.d (.sl (l.map fun n=>[.int .i64 n]))] [] (.d (.int .i64 (orOf l))) []:=by
 refine cf_intro mix (fn:=Tryz.f139) (by kernel_rfl) rfl (by kernel_rfl) (by decide) (by simp) ?_
 simp
 refine ⟨.of (by kernel_rfl),.of (by kernel_rfl),.of (by kernel_rfl),?_⟩
 refine aloopT mix (by decide) (fun i:Nat=>{ s:=mkS [(3,.d (.int .i64 0)),(6,.d (.sl (l.map fun n=>[.int .i64 n]))),(7,.d (.int .i64 l.length)),(8,.d (.int .i64 i))],b:=mkB [] }) (fun i:Nat=>i≤l.length∧orOf (l.drop i)=orOf l) (fun i=>l.length - i) 0 (by simp) (sub_mk _ [] .nil (by simp)) ?_
 rintro i ⟨hi,ho⟩
 simp
 refine ⟨.of (by kernel_rfl),fun hlt=>?_,fun hle=>?_⟩
 ·have hg:l[i]?=some l[i]:=List.getElem?_eq_getElem hlt
  have hd:=orOf_drop hg
  simp [hg]
  refine ⟨.of (by kernel_rfl),.of (by kernel_rfl),fun h=>?_,fun h=>?_⟩
  ·exact ⟨.of (by kernel_rfl),by rw [← ho,hd]; simp [h]⟩
  ·refine ⟨.of (by kernel_rfl),i+1,⟨hlt,?_⟩,?_,?_⟩
   ·rw [← ho,hd]; simp [h]
   ·refine sub_mk _ [] .nil ?_
    simp
    exact wrap_in (by omega) (by omega)
   ·simp; omega
 ·refine ⟨.of (by kernel_rfl),?_⟩
  have:i=l.length:=by omega
  subst this
  simpa [orOf] using ho
theorem v_compare (v u:V):Cf En 141 [v.a,u.a] [] (.d (.int .i64 (v.cmp u))) []:=by
 refine cf_intro mix (fn:=Tryz.f141) (by kernel_rfl) rfl (by kernel_rfl) (by decide) (by simp) ?_
 simp [V.a]
 refine ⟨.of (by kernel_rfl),acallT_plain (cmp_int v.k u.k) (by simp) ?_⟩
 simp
 refine acallT_plain (cmp_int64 v.n u.n) (by simp) ?_
 simp
 refine acallT_plain (cmp_string v.t u.t) (by simp) ?_
 simp
 refine acallT_plain (or_int [cmpI v.k u.k,cmpI v.n u.n,cmpS v.t u.t] (by simp)) (by simp) ?_
 simp
 exact ⟨.of (by kernel_rfl),rfl⟩
theorem v_same (v u:V):Cf En 152 [v.a,u.a] [] (.d (.bool (v.same u))) []:=by
 refine cf_intro mix (fn:=Tryz.f152) (by kernel_rfl) rfl (by kernel_rfl) (by decide) (by simp) ?_
 simp [V.a]
 exact ⟨.of (by kernel_rfl),.of (by kernel_rfl),by simp [V.same]⟩
theorem r_compare (v u:V):Cf En 98 [v.a,u.a] [] (.d (.int .i64 (v.cmp u))) []:=by
 refine cf_intro mix (fn:=Tryz.f98) (by kernel_rfl) rfl (by kernel_rfl) (by decide) (by simp) ?_
 simp [V.a]
 repeat' (first | intro _ | refine And.intro ?_ ?_)
 all_goals first | exact .of (by kernel_rfl) | skip
 all_goals (simp only [V.cmp,orOf,cmpI,cmpS]; grind)
theorem r_same (v u:V):Cf En 88 [v.a,u.a] [] (.d (.bool (v.cmp u==0))) []:=by
 refine cf_intro mix (fn:=Tryz.f88) (by kernel_rfl) rfl (by kernel_rfl) (by decide) (by simp) ?_
 simp [V.a]
 refine ⟨.of (by kernel_rfl),acallT_plain (r_compare v u) (by simp [V.a]) ?_⟩
 simp
 exact .of (by kernel_rfl)
end Go.Proofs.Tryz
namespace Go.Proofs.Tryz
open Go.Ab
theorem cmpI_self (a:Int):cmpI a a=0:=by unfold cmpI; simp
theorem less_irr:∀ a:List UInt8,Op.bytesLess a a=false
 | []=>rfl
 | a::l=>by simp [Op.bytesLess,less_irr l]
theorem less_asym:∀ a b:List UInt8,Op.bytesLess a b=true→Op.bytesLess b a=false
 | [],[],h=>by simp [Op.bytesLess] at h
 | [],_::_,_=>rfl
 | _::_,[],h=>by simp [Op.bytesLess] at h
 | x::a,y::b,h=>by
   simp only [Op.bytesLess,Bool.or_eq_true,decide_eq_true_eq,Bool.and_eq_true,beq_iff_eq,Bool.or_eq_false_iff,decide_eq_false_iff_not] at *
   rcases h with h | ⟨rfl,h⟩
   ·refine ⟨fun h2=>?_,?_⟩
    ·rw [UInt8.lt_iff_toNat_lt] at h h2; omega
    ·have:(y==x)=false:=by
      rw [beq_eq_false_iff_ne]; rintro rfl; rw [UInt8.lt_iff_toNat_lt] at h; omega
     simp [this]
   ·exact ⟨by rw [UInt8.lt_iff_toNat_lt]; omega,by simp [less_asym a b h]⟩
theorem less_tri:∀ a b:List UInt8,Op.bytesLess a b=false→Op.bytesLess b a=false→a=b
 | [],[],_,_=>rfl
 | [],_::_,h,_=>by simp [Op.bytesLess] at h
 | _::_,[],_,h=>by simp [Op.bytesLess] at h
 | x::a,y::b,h1,h2=>by
   simp only [Op.bytesLess,Bool.or_eq_false_iff,decide_eq_false_iff_not,Bool.and_eq_false_imp,beq_iff_eq] at h1 h2
   have:x=y:=by
    apply UInt8.toNat_inj.1
    have a1:=h1.1; have a2:=h2.1
    rw [UInt8.lt_iff_toNat_lt] at a1 a2
    omega
   subst this
   rw [less_tri a b (h1.2 rfl) (h2.2 rfl)]
theorem less_trans:∀ a b c:List UInt8,Op.bytesLess a b=true→Op.bytesLess b c=true→Op.bytesLess a c=true
 | _,[],_,h,_=>by cases ‹List UInt8› <;> simp [Op.bytesLess] at h
 | _,_::_,[],_,h=>by simp [Op.bytesLess] at h
 | [],_::_,_::_,_,_=>rfl
 | x::a,y::b,z::c,h1,h2=>by
   simp only [Op.bytesLess,Bool.or_eq_true,decide_eq_true_eq,Bool.and_eq_true,beq_iff_eq] at *
   rcases h1 with h1 | ⟨rfl,h1⟩ <;> rcases h2 with h2 | ⟨rfl,h2⟩
   ·left; rw [UInt8.lt_iff_toNat_lt] at *; omega
   ·exact .inl h1
   ·exact .inl h2
   ·exact .inr ⟨rfl,less_trans a b c h1 h2⟩
theorem cmpI_cases (a b:Int):(a<b∧cmpI a b=-1∧cmpI b a=1)∨(a=b∧cmpI a b=0∧cmpI b a=0)∨(b<a∧cmpI a b=1∧cmpI b a=-1):=by
 unfold cmpI; grind
theorem cmpS_cases (a b:List UInt8):(Op.bytesLess a b=true∧cmpS a b=-1∧cmpS b a=1)∨(a=b∧cmpS a b=0∧cmpS b a=0)∨(Op.bytesLess b a=true∧cmpS a b=1∧cmpS b a=-1):=by
 unfold cmpS
 cases h1:Op.bytesLess a b with
 | true =>
   have h2:=less_asym a b h1
   have:¬ b=a:=fun e=>by subst e; rw [less_irr] at h1; cases h1
   simp [h2,this]
 | false =>
   cases h2:Op.bytesLess b a with
   | true =>
     have:¬ a=b:=fun e=>by subst e; rw [less_irr] at h2; cases h2
     simp [this]
   | false =>
     have:=less_tri a b h1 h2
     subst this; simp
theorem V.cmp_def (v u:V):v.cmp u=if cmpI v.k u.k ≠ 0 then cmpI v.k u.k else if cmpI v.n u.n ≠ 0 then cmpI v.n u.n else cmpS v.t u.t:=by
 simp only [V.cmp,orOf]; grind
theorem V.cmp_self (v:V):v.cmp v=0:=by
 rw [V.cmp_def,cmpI_self,cmpI_self]
 simp [cmpS,less_irr]
theorem V.cmp_neg (v u:V):u.cmp v=- v.cmp u:=by
 rw [V.cmp_def,V.cmp_def]
 rcases cmpI_cases v.k u.k with h | h | h <;> rcases cmpI_cases v.n u.n with h' | h' | h' <;> rcases cmpS_cases v.t u.t with h2 | h2 | h2 <;> simp [h.2,h'.2,h2.2]
theorem V.same_cmp (v u:V):v.same u=(v.cmp u==0):=by
 rw [V.cmp_def,V.same,Bool.eq_iff_iff]
 simp only [Bool.and_eq_true,beq_iff_eq]
 rcases cmpI_cases v.k u.k with h | h | h
 ·have:¬ v.k=u.k:=by omega
  simp [h.2,this]
 ·rcases cmpI_cases v.n u.n with h' | h' | h'
  ·have:¬ v.n=u.n:=by omega
   simp [h.2,h'.2,this]
  ·rcases cmpS_cases v.t u.t with h2 | h2 | h2
   ·have:¬ v.t=u.t:=fun e=>by rw [e,less_irr] at h2; cases h2.1
    simp [h.2,h'.2,h2.2,this]
   ·simp only [h.2.1,h'.2.1,h2.2.1]; simp [h.1,h'.1,h2.1]
   ·have:¬ v.t=u.t:=fun e=>by rw [e,less_irr] at h2; cases h2.1
    simp [h.2,h'.2,h2.2,this]
  ·have:¬ v.n=u.n:=by omega
   simp [h.2,h'.2,this]
 ·have:¬ v.k=u.k:=by omega
  simp [h.2,this]
theorem cmpI_trans {a b c:Int} (h1:cmpI a b≤0) (h2:cmpI b c≤0):cmpI a c≤0∧(cmpI a c=0→cmpI a b=0∧cmpI b c=0):=by
 unfold cmpI at *; grind
theorem cmpS_trans {a b c:List UInt8} (h1:cmpS a b≤0) (h2:cmpS b c≤0):cmpS a c≤0:=by
 rcases cmpS_cases a b with x | x | x
 ·rcases cmpS_cases b c with y | y | y
  ·have:=less_trans a b c x.1 y.1
   simp [cmpS,this]
  ·rw [← y.1]; omega
  ·omega
 ·rw [x.1]; exact h2
 ·omega
theorem V.cmp_le {v u:V}:v.cmp u≤0↔cmpI v.k u.k<0∨(cmpI v.k u.k=0∧(cmpI v.n u.n<0∨(cmpI v.n u.n=0∧cmpS v.t u.t≤0))):=by
 rw [V.cmp_def]
 split
 ·omega
 ·split <;> omega
theorem V.cmp_trans {a b c:V} (h1:a.cmp b≤0) (h2:b.cmp c≤0):a.cmp c≤0:=by
 rw [V.cmp_le] at *
 have k:=@cmpI_trans a.k b.k c.k
 have n:=@cmpI_trans a.n b.n c.n
 have s:=@cmpS_trans a.t b.t c.t
 have k1:cmpI a.k b.k≤0:=by omega
 have k2:cmpI b.k c.k≤0:=by omega
 have k3:=k k1 k2
 by_cases e:cmpI a.k c.k=0
 ·have e2:=k3.2 e
  have n1:cmpI a.n b.n≤0:=by omega
  have n2:cmpI b.n c.n≤0:=by omega
  have n3:=n n1 n2
  by_cases f:cmpI a.n c.n=0
  ·have f2:=n3.2 f
   exact .inr ⟨e,.inr ⟨f,s (by omega) (by omega)⟩⟩
  ·exact .inr ⟨e,.inl (by omega)⟩
 ·exact .inl (by omega)
end Go.Proofs.Tryz
namespace Go.Proofs.Tryz
open Go.Ab
def badN (c:Nat):Bool:=decide (c<32)||(decide (126<c)||c==39)
def badB (b:UInt8):Bool:=badN b.toNat
def firstBad (s:List UInt8):Int:=match s.findIdx? badB with
 | some i=>i
 | none=>-1
def textOk (s:List UInt8):Bool:=decide (s.length≤24)&&!s.any badB
theorem get_byte (s:List UInt8) (i:Nat) (h:i<s.length):(ByteArray.get! ⟨s.toArray⟩ i)=s[i]:=by
 simp [ByteArray.get!,h]
theorem dec_low {s:List UInt8} {i:Nat} (h:i<s.length) (hb:s[i].toNat<128):Utf8.decode ⟨s.toArray⟩ i=(s[i].toNat,1):=by
 unfold Utf8.decode
 simp only [Nat.add_zero,get_byte s i h,hb,if_true]
theorem dec_high {s:List UInt8} {i:Nat} (h:i<s.length) (hb:128≤s[i].toNat):128≤(Utf8.decode ⟨s.toArray⟩ i).1:=by
 unfold Utf8.decode
 simp only [Nat.add_zero,get_byte s i h,show ¬ s[i].toNat<128 from by omega,if_false]
 repeat' split
 all_goals first | (simp [Utf8.runeError]; done) | skip
 all_goals simp_all
 all_goals omega
theorem dec_bad {s:List UInt8} {i:Nat} (h:i<s.length):badN (Utf8.decode ⟨s.toArray⟩ i).1=badB s[i]:=by
 unfold badB
 by_cases hb:s[i].toNat<128
 ·rw [dec_low h hb]
 ·have:=dec_high h (by omega)
  have h1:badN (Utf8.decode ⟨s.toArray⟩ i).1=true:=by unfold badN; simp; omega
  have h2:badN s[i].toNat=true:=by unfold badN; simp; omega
  rw [h1,h2]
theorem dec_ok {s:List UInt8} {i:Nat} (h:i<s.length) (hb:badB s[i]=false):(Utf8.decode ⟨s.toArray⟩ i).2=1:=by
 have:s[i].toNat<128:=by unfold badB badN at hb; simp at hb; omega
 rw [dec_low h this]
theorem text_fun (c:Nat):Cf En 204 [.d (.int .i32 c)] [] (.d (.bool (badN c))) []:=by
 refine cf_intro mix (fn:=Tryz.f204) (by kernel_rfl) rfl (by kernel_rfl) (by decide) (by simp) ?_
 unfold badN
 by_cases h1:c<32
 ·have h1':(c:Int)<32:=by omega
  simp [h1,h1']
  exact ⟨.of (by kernel_rfl),.of (by kernel_rfl)⟩
 ·have h1':¬ (c:Int)<32:=by omega
  by_cases h2:126<c
  ·have h2':(126:Int)<c:=by omega
   simp [h1,h1',h2,h2']
   exact ⟨.of (by kernel_rfl),.of (by kernel_rfl)⟩
  ·have h2':¬ (126:Int)<c:=by omega
   simp [h1,h1',h2,h2']
   exact ⟨.of (by kernel_rfl),.of (by kernel_rfl),by rw [Bool.eq_iff_iff]; simp; omega⟩
theorem index_func (s:List UInt8) (hl:s.length≤1000000):Cf En 222 [.d (.str s),.clo 204 [],.d (.bool true)] [] (.d (.int .i64 (firstBad s))) []:=by
 refine cf_intro mix (fn:=Tryz.f222) (by kernel_rfl) rfl (by kernel_rfl) (by decide) (by simp) ?_
 simp
 refine ⟨.of (by kernel_rfl),.of (by kernel_rfl),?_⟩
 refine aloopT mix (by decide) (fun i:Nat=>{ s:=mkS [(0,.d (.str s)),(1,.clo 204 []),(2,.d (.bool true)),(10,.ptr 10 0 0)],b:=mkB [(10,10,.iter s i)] }) (fun i:Nat=>i≤s.length∧∀ j (h:j<s.length),j<i→badB s[j]=false) (fun i=>s.length - i) 0 (by simp) (sub_mk _ _ ⟨by simp,by simp,by simp [renOf,Blk.live],by simp⟩ (by simp [renOf])) ?_
 rintro i ⟨hi,ho⟩
 by_cases hlt:i<s.length
 ·simp [hlt]
  refine ⟨.of (by kernel_rfl),.of (by kernel_rfl),acallT_plain (text_fun (Utf8.decode ⟨s.toArray⟩ i).1) (by simp) ?_⟩
  simp
  have hb:=dec_bad hlt
  refine ⟨.of (by kernel_rfl),fun h=>⟨.of (by kernel_rfl),?_⟩,fun h=>⟨i+1,⟨hlt,?_⟩,?_,?_⟩⟩
  ·rw [hb] at h
   unfold firstBad
   have:s.findIdx? badB=some i:=by
    rw [List.findIdx?_eq_some_iff_getElem]
    exact ⟨hlt,h,fun j hj=>by simp [ho j (by omega) hj]⟩
   rw [this]
  ·intro j hj hji
   rcases Nat.lt_or_ge j i with c | c
   ·exact ho j hj c
   ·have:j=i:=by omega
    subst this
    rw [← hb]; exact h
  ·refine sub_mk _ [(10,10,.iter s (i+1))] ⟨by simp,by simp,?_,by simp⟩ (by simp [renOf])
   rw [hb] at h
   simp [renOf,Blk.live,dec_ok hlt h]
  ·simp; omega
 ·simp [hlt]
  refine ⟨.of (by kernel_rfl),.of (by kernel_rfl),?_⟩
  unfold firstBad
  have:s.findIdx? badB=none:=by
   rw [List.findIdx?_eq_none_iff]
   intro b hb
   obtain ⟨j,hj,rfl⟩:=List.getElem_of_mem hb
   exact ho j hj (by omega)
  rw [this]
theorem index_func2 (s:List UInt8) (hl:s.length≤1000000):Cf En 203 [.d (.str s),.clo 204 []] [] (.d (.int .i64 (firstBad s))) []:=by
 refine cf_intro mix (fn:=Tryz.f203) (by kernel_rfl) rfl (by kernel_rfl) (by decide) (by simp) ?_
 simp
 refine ⟨.of (by kernel_rfl),acallT_plain (index_func s hl) (by simp) ?_⟩
 simp
 exact .of (by kernel_rfl)
theorem firstBad_neg (s:List UInt8):decide (firstBad s<0)=!s.any badB:=by
 unfold firstBad
 cases h:s.findIdx? badB with
 | none =>
   rw [List.findIdx?_eq_none_iff] at h
   have:s.any badB=false:=by rw [List.any_eq_false]; intro x hx; simp [h x hx]
   simp [this]
 | some i =>
   rw [List.findIdx?_eq_some_iff_getElem] at h
   obtain ⟨hi,h,_⟩:=h
   have:s.any badB=true:=List.any_eq_true.2 ⟨_,List.getElem_mem hi,h⟩
   simp [this]
theorem v_text (s:List UInt8):Cf En 174 [.d (.str s)] [] (.d (.bool (textOk s))) []:=by
 refine cf_intro mix (fn:=Tryz.f174) (by kernel_rfl) rfl (by kernel_rfl) (by decide) (by simp) ?_
 have hn:=firstBad_neg s
 unfold textOk
 by_cases h:s.length≤24
 ·have h':(s.length:Int)≤24:=by omega
  simp [h,h']
  refine ⟨.of (by kernel_rfl),acallT_plain (index_func2 s (by omega)) (by simp) ?_⟩
  simp [h']
  exact ⟨.of (by kernel_rfl),by rw [hn]; simp [h]⟩
 ·have h':¬ (s.length:Int)≤24:=by omega
  simp [h,h']
  exact ⟨.of (by kernel_rfl),.of (by kernel_rfl)⟩
def V.valid (v:V):Bool :=
 if v.k=0 then v.n==0&&v.t==[]
 else if v.k=1 then decide (-1000000000000≤v.n)&&(decide (v.n≤1000000000000)&&v.t==[])
 else if v.k=2 then (v.n==0||v.n==1)&&v.t==[]
 else if v.k=3 then v.n==0&&textOk v.t
 else false
theorem v_valid (v:V):Cf En 138 [v.a] [] (.d (.bool v.valid)) []:=by
 refine cf_intro mix (fn:=Tryz.f138) (by kernel_rfl) rfl (by kernel_rfl) (by decide) (by simp) ?_
 obtain ⟨k,n,t⟩:=v
 unfold V.valid V.a
 simp
 repeat' (first | exact .of (by kernel_rfl) | refine And.intro ?_ ?_ | intro _)
 all_goals try (refine agrd_cases (fun h=>?_) (fun h=>?_) <;> (have h':=h; (try simp at h'); simp [h,h']))
 repeat' (first | exact .of (by kernel_rfl) | refine And.intro ?_ ?_ | intro _)
 all_goals try (refine agrd_cases (fun h=>?_) (fun h=>?_) <;> (have h':=h; (try simp at h'); simp [h,h']))
 repeat' (first | exact .of (by kernel_rfl) | refine And.intro ?_ ?_ | intro _)
 all_goals try (refine agrd_cases (fun h=>?_) (fun h=>?_) <;> (have h':=h; (try simp at h'); simp [h,h']))
 repeat' (first | exact .of (by kernel_rfl) | refine And.intro ?_ ?_ | intro _)
 all_goals try (refine acallT_plain (v_text t) (by simp) ?_; simp)
 repeat' (first | exact .of (by kernel_rfl) | refine And.intro ?_ ?_ | intro _)
 all_goals try (simp_all; done)
end Go.Proofs.Tryz
