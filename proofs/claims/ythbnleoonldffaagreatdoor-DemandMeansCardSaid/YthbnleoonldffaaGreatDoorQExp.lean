import Derived.Test.YthbnleoonldffaaGreatDoorAbB
import Derived.Test.YthbnleoonldffaaGreatDoorProg
set_option linter.all false
namespace Go.Proofs.Tryz
open Go.Ab
noncomputable def En:dZ:=⟨Tryz.prog,fun g=>if g=2 then some [.int .i64 0,.int .i64 0,.str []] else none⟩
@[simp] theorem aHy:En.P=Tryz.prog:=id rfl
@[simp] theorem aGM (g:Nat):En.G g=if g=2 then some [.int .i64 0,.int .i64 0,.str []] else none:=rfl
theorem aW:En.P.follows .mixedOrders=true:=by kernel_rfl
@[simp] theorem aHn:bX Tryz.prog 2=some { size:=1,bytes:=8,zero:=some [Value.int IntKind.i64 (0)],kind:=TK.int IntKind.i64 }:=by kernel_rfl
@[simp] theorem aHo:bX Tryz.prog 3=some { size:=1,bytes:=8,zero:=some [Value.int IntKind.i64 (0)],kind:=TK.int IntKind.i64 }:=by kernel_rfl
@[simp] theorem aHp:bX Tryz.prog 4=some { size:=1,bytes:=1,zero:=some [Value.bool false],kind:=TK.bool }:=by kernel_rfl
@[simp] theorem aHq:bX Tryz.prog 5=some { size:=1,bytes:=1,zero:=some [Value.int IntKind.u8 (0)],kind:=TK.int IntKind.u8 }:=by kernel_rfl
@[simp] theorem aHr:bX Tryz.prog 9=some { size:=1,bytes:=16,zero:=some [Value.string { data:={ toList:=[] } }],kind:=TK.string }:=by kernel_rfl
@[simp] theorem aGN:bX Tryz.prog 22=some { size:=1,bytes:=24,zero:=some [Value.slice none 0 0],kind:=TK.slice 3 }:=by kernel_rfl
@[simp] theorem aGO:bX Tryz.prog 23=some { size:=1,bytes:=24,zero:=some [Value.slice none 0 0],kind:=TK.slice 25 }:=by kernel_rfl
@[simp] theorem aGP:bX Tryz.prog 25=some { size:=6,bytes:=72,zero:=some [Value.int IntKind.i64 (0),Value.int IntKind.i64 (0),Value.int IntKind.i64 (0),Value.string { data:={ toList:=[] } },Value.int IntKind.i64 (0),Value.slice none 0 0],kind:=TK.struct [(0,1,false),(1,1,false),(2,1,false),(3,1,false),(4,1,false),(5,1,false)] }:=by kernel_rfl
@[simp] theorem aGQ:bX Tryz.prog 26=some { size:=1,bytes:=24,zero:=some [Value.slice none 0 0],kind:=TK.slice 137 }:=by kernel_rfl
@[simp] theorem aGR:bX Tryz.prog 27=some { size:=1,bytes:=24,zero:=some [Value.slice none 0 0],kind:=TK.slice 118 }:=by kernel_rfl
@[simp] theorem aGS:bX Tryz.prog 28=some { size:=1,bytes:=24,zero:=some [Value.slice none 0 0],kind:=TK.slice 30 }:=by kernel_rfl
@[simp] theorem aGT:bX Tryz.prog 30=some { size:=15,bytes:=232,zero:=some [Value.int IntKind.i64 (0),Value.string { data:={ toList:=[] } },Value.int IntKind.i64 (0),Value.bool false,Value.int IntKind.i64 (0),Value.int IntKind.i64 (0),Value.int IntKind.i64 (0),Value.string { data:={ toList:=[] } },Value.int IntKind.i64 (0),Value.slice none 0 0,Value.slice none 0 0,Value.slice none 0 0,Value.slice none 0 0,Value.slice none 0 0,Value.slice none 0 0],kind:=TK.struct [(0,1,false),(1,1,false),(2,1,false),(3,1,false),(4,6,true),(10,1,false),(11,1,false),(12,1,false),(13,1,false),(14,1,false)] }:=by kernel_rfl
@[simp] theorem aGU:bX Tryz.prog 32=some { size:=1,bytes:=24,zero:=some [Value.slice none 0 0],kind:=TK.slice 73 }:=by kernel_rfl
@[simp] theorem aGV:bX Tryz.prog 34=some { size:=1,bytes:=24,zero:=some [Value.slice none 0 0],kind:=TK.struct [(0,1,false)] }:=by kernel_rfl
@[simp] theorem aGW:bX Tryz.prog 38=some { size:=2,bytes:=32,zero:=some [Value.slice none 0 0,Value.int IntKind.i64 (0)],kind:=TK.struct [(0,1,false),(1,1,false)] }:=by kernel_rfl
@[simp] theorem aGX:bX Tryz.prog 60=some { size:=1,bytes:=24,zero:=some [Value.slice none 0 0],kind:=TK.slice 27 }:=by kernel_rfl
@[simp] theorem aGY:bX Tryz.prog 62=some { size:=1,bytes:=24,zero:=some [Value.slice none 0 0],kind:=TK.struct [(0,1,false)] }:=by kernel_rfl
@[simp] theorem aGZ:bX Tryz.prog 65=some { size:=3,bytes:=64,zero:=some [Value.string { data:={ toList:=[] } },Value.slice none 0 0,Value.slice none 0 0],kind:=TK.struct [(0,1,false),(1,1,false),(2,1,false)] }:=by kernel_rfl
@[simp] theorem aHa:bX Tryz.prog 69=some { size:=1,bytes:=24,zero:=some [Value.slice none 0 0],kind:=TK.slice 87 }:=by kernel_rfl
@[simp] theorem aHb:bX Tryz.prog 70=some { size:=1,bytes:=24,zero:=some [Value.slice none 0 0],kind:=TK.slice 22 }:=by kernel_rfl
@[simp] theorem aHc:bX Tryz.prog 71=some { size:=1,bytes:=24,zero:=some [Value.slice none 0 0],kind:=TK.slice 75 }:=by kernel_rfl
@[simp] theorem aHd:bX Tryz.prog 73=some { size:=6,bytes:=136,zero:=some [Value.string { data:={ toList:=[] } },Value.slice none 0 0,Value.slice none 0 0,Value.slice none 0 0,Value.slice none 0 0,Value.slice none 0 0],kind:=TK.struct [(0,1,false),(1,1,false),(2,1,false),(3,1,false),(4,1,false),(5,1,false)] }:=by kernel_rfl
@[simp] theorem aHe:bX Tryz.prog 75=some { size:=2,bytes:=40,zero:=some [Value.slice none 0 0,Value.string { data:={ toList:=[] } }],kind:=TK.struct [(0,1,false),(1,1,false)] }:=by kernel_rfl
@[simp] theorem aHf:bX Tryz.prog 87=some { size:=3,bytes:=32,zero:=some [Value.string { data:={ toList:=[] } },Value.int IntKind.i64 (0),Value.bool false],kind:=TK.struct [(0,1,false),(1,1,false),(2,1,false)] }:=by kernel_rfl
@[simp] theorem aHg:bX Tryz.prog 93=some { size:=1,bytes:=24,zero:=some [Value.slice none 0 0],kind:=TK.slice 9 }:=by kernel_rfl
@[simp] theorem aFZ:bX Tryz.prog 108=some { size:=1,bytes:=8,zero:=some [Value.nilFunc],kind:=TK.other }:=by kernel_rfl
@[simp] theorem aGa:bX Tryz.prog 111=some { size:=3,bytes:=32,zero:=some [Value.int IntKind.i64 (0),Value.int IntKind.i64 (0),Value.string { data:={ toList:=[] } }],kind:=TK.struct [(0,1,false),(1,1,false),(2,1,false)] }:=by kernel_rfl
@[simp] theorem aFK:oD Tryz.prog 111=some [TK.int IntKind.i64,TK.int IntKind.i64,TK.string]:=by kernel_rfl
@[simp] theorem aGb:bX Tryz.prog 113=some { size:=5,bytes:=48,zero:=some [Value.int IntKind.i64 (0),Value.int IntKind.i64 (0),Value.int IntKind.i64 (0),Value.int IntKind.i64 (0),Value.string { data:={ toList:=[] } }],kind:=TK.struct [(0,1,false),(1,1,false),(2,3,true)] }:=by kernel_rfl
@[simp] theorem aFL:oD Tryz.prog 113=some [TK.int IntKind.i64,TK.int IntKind.i64,TK.int IntKind.i64,TK.int IntKind.i64,TK.string]:=by kernel_rfl
@[simp] theorem aGc:bX Tryz.prog 118=some { size:=1,bytes:=24,zero:=some [Value.slice none 0 0],kind:=TK.slice 111 }:=by kernel_rfl
@[simp] theorem aGd:bX Tryz.prog 133=some { size:=1,bytes:=24,zero:=some [Value.slice none 0 0],kind:=TK.slice 229 }:=by kernel_rfl
@[simp] theorem aGe:bX Tryz.prog 137=some { size:=7,bytes:=80,zero:=some [Value.int IntKind.i64 (0),Value.int IntKind.i64 (0),Value.int IntKind.i64 (0),Value.int IntKind.i64 (0),Value.string { data:={ toList:=[] } },Value.int IntKind.i64 (0),Value.slice none 0 0],kind:=TK.struct [(0,1,false),(1,6,true)] }:=by kernel_rfl
@[simp] theorem aGf:bX Tryz.prog 139=some { size:=1,bytes:=24,zero:=some [Value.slice none 0 0],kind:=TK.slice 5 }:=by kernel_rfl
@[simp] theorem aGg:bX Tryz.prog 170=some { size:=1,bytes:=24,zero:=some [Value.slice none 0 0],kind:=TK.slice 4 }:=by kernel_rfl
@[simp] theorem aGh:bX Tryz.prog 194=some { size:=1,bytes:=24,zero:=some [Value.slice none 0 0],kind:=TK.slice 195 }:=by kernel_rfl
@[simp] theorem aGi:bX Tryz.prog 195=some { size:=1,bytes:=8,zero:=some [Value.map none],kind:=TK.other }:=by kernel_rfl
@[simp] theorem aGj:bX Tryz.prog 211=some { size:=1,bytes:=24,zero:=some [Value.slice none 0 0],kind:=TK.slice 2 }:=by kernel_rfl
@[simp] theorem aGk:bX Tryz.prog 229=some { size:=1,bytes:=24,zero:=some [Value.slice none 0 0],kind:=TK.slice 113 }:=by kernel_rfl
@[simp] theorem aGl:bX Tryz.prog 237=some { size:=4,bytes:=40,zero:=some [Value.string { data:={ toList:=[] } },Value.int IntKind.i64 (0),Value.int IntKind.i64 (0),Value.int IntKind.i64 (0)],kind:=TK.struct [(0,1,false),(1,1,false),(2,1,false),(3,1,false)] }:=by kernel_rfl
@[simp] theorem aGm:bX Tryz.prog 346=some { size:=1,bytes:=8,zero:=some [Value.int IntKind.u64 (0)],kind:=TK.int IntKind.u64 }:=by kernel_rfl
@[simp] theorem aGn:bX Tryz.prog 350=some { size:=116,bytes:=1160,zero:=some [Value.string { data:={ toList:=[] } },Value.int IntKind.i64 (0),Value.int IntKind.i64 (0),Value.int IntKind.i64 (0),Value.string { data:={ toList:=[] } },Value.int IntKind.i64 (0),Value.int IntKind.i64 (0),Value.int IntKind.i64 (0),Value.string { data:={ toList:=[] } },Value.int IntKind.i64 (0),Value.int IntKind.i64 (0),Value.int IntKind.i64 (0),Value.string { data:={ toList:=[] } },Value.int IntKind.i64 (0),Value.int IntKind.i64 (0),Value.int IntKind.i64 (0),Value.string { data:={ toList:=[] } },Value.int IntKind.i64 (0),Value.int IntKind.i64 (0),Value.int IntKind.i64 (0),Value.string { data:={ toList:=[] } },Value.int IntKind.i64 (0),Value.int IntKind.i64 (0),Value.int IntKind.i64 (0),Value.string { data:={ toList:=[] } },Value.int IntKind.i64 (0),Value.int IntKind.i64 (0),Value.int IntKind.i64 (0),Value.string { data:={ toList:=[] } },Value.int IntKind.i64 (0),Value.int IntKind.i64 (0),Value.int IntKind.i64 (0),Value.string { data:={ toList:=[] } },Value.int IntKind.i64 (0),Value.int IntKind.i64 (0),Value.int IntKind.i64 (0),Value.string { data:={ toList:=[] } },Value.int IntKind.i64 (0),Value.int IntKind.i64 (0),Value.int IntKind.i64 (0),Value.string { data:={ toList:=[] } },Value.int IntKind.i64 (0),Value.int IntKind.i64 (0),Value.int IntKind.i64 (0),Value.string { data:={ toList:=[] } },Value.int IntKind.i64 (0),Value.int IntKind.i64 (0),Value.int IntKind.i64 (0),Value.string { data:={ toList:=[] } },Value.int IntKind.i64 (0),Value.int IntKind.i64 (0),Value.int IntKind.i64 (0),Value.string { data:={ toList:=[] } },Value.int IntKind.i64 (0),Value.int IntKind.i64 (0),Value.int IntKind.i64 (0),Value.string { data:={ toList:=[] } },Value.int IntKind.i64 (0),Value.int IntKind.i64 (0),Value.int IntKind.i64 (0),Value.string { data:={ toList:=[] } },Value.int IntKind.i64 (0),Value.int IntKind.i64 (0),Value.int IntKind.i64 (0),Value.string { data:={ toList:=[] } },Value.int IntKind.i64 (0),Value.int IntKind.i64 (0),Value.int IntKind.i64 (0),Value.string { data:={ toList:=[] } },Value.int IntKind.i64 (0),Value.int IntKind.i64 (0),Value.int IntKind.i64 (0),Value.string { data:={ toList:=[] } },Value.int IntKind.i64 (0),Value.int IntKind.i64 (0),Value.int IntKind.i64 (0),Value.string { data:={ toList:=[] } },Value.int IntKind.i64 (0),Value.int IntKind.i64 (0),Value.int IntKind.i64 (0),Value.string { data:={ toList:=[] } },Value.int IntKind.i64 (0),Value.int IntKind.i64 (0),Value.int IntKind.i64 (0),Value.string { data:={ toList:=[] } },Value.int IntKind.i64 (0),Value.int IntKind.i64 (0),Value.int IntKind.i64 (0),Value.string { data:={ toList:=[] } },Value.int IntKind.i64 (0),Value.int IntKind.i64 (0),Value.int IntKind.i64 (0),Value.string { data:={ toList:=[] } },Value.int IntKind.i64 (0),Value.int IntKind.i64 (0),Value.int IntKind.i64 (0),Value.string { data:={ toList:=[] } },Value.int IntKind.i64 (0),Value.int IntKind.i64 (0),Value.int IntKind.i64 (0),Value.string { data:={ toList:=[] } },Value.int IntKind.i64 (0),Value.int IntKind.i64 (0),Value.int IntKind.i64 (0),Value.string { data:={ toList:=[] } },Value.int IntKind.i64 (0),Value.int IntKind.i64 (0),Value.int IntKind.i64 (0),Value.string { data:={ toList:=[] } },Value.int IntKind.i64 (0),Value.int IntKind.i64 (0),Value.int IntKind.i64 (0),Value.string { data:={ toList:=[] } },Value.int IntKind.i64 (0),Value.int IntKind.i64 (0),Value.int IntKind.i64 (0)],kind:=TK.array 29 237 }:=by kernel_rfl
@[simp] theorem aGo:bX Tryz.prog 356=some { size:=1,bytes:=8,zero:=some [Value.int IntKind.u64 (0)],kind:=TK.int IntKind.u64 }:=by kernel_rfl
@[simp] theorem aGp:bX Tryz.prog 384=some { size:=1,bytes:=4,zero:=some [Value.int IntKind.u32 (0)],kind:=TK.int IntKind.u32 }:=by kernel_rfl
structure V where
 k:Int
 n:Int
 t:List UInt8
def V.a (v:V):AV:=.agg [.d (.int .i64 v.k),.d (.int .i64 v.n),.d (.str v.t)]
def V.c (v:V):List D:=[.int .i64 v.k,.int .i64 v.n,.str v.t]
def V.same (v u:V):Bool:=v.k==u.k&&(v.n==u.n&&v.t==u.t)
def eQ (a b:Int):Int:=if a<b then -1 else if b<a then 1 else 0
def oZ (a b:List UInt8):Int:=if Op.bytesLess a b=true then -1 else if a=b then 0 else 1
def wJ:List Int→Int
 | []=>0
 | x::xs=>if x ≠ 0 then x else wJ xs
def V.cmp (v u:V):Int:=wJ [eQ v.k u.k,eQ v.n u.n,oZ v.t u.t]
theorem VO {l:List Int} {i:Nat} {n:Int} (h:l[i]?=some n):wJ (l.drop i)=if n ≠ 0 then n else wJ (l.drop (i+1)):=by
 obtain ⟨hi,rfl⟩:=List.getElem?_eq_some_iff.1 h
 rw [List.drop_eq_getElem_cons hi,wJ]
theorem ET (n:Int):Cf En 384 [.d (.int .i64 n)] [] (.d (.bool false)) []:=by
 refine aD aW (fn:=Tryz.f384) (by kernel_rfl) rfl (by kernel_rfl) (by decide) (by simp) ?_
 simp
 exact ⟨.of (by kernel_rfl),.of (by kernel_rfl)⟩
theorem xE (n:Int):Cf En 402 [.d (.int .i64 n)] [] (.d (.bool false)) []:=by
 refine aD aW (fn:=Tryz.f402) (by kernel_rfl) rfl (by kernel_rfl) (by decide) (by simp) ?_
 simp
 exact ⟨.of (by kernel_rfl),.of (by kernel_rfl)⟩
theorem uR (n:List UInt8):Cf En 403 [.d (.str n)] [] (.d (.bool false)) []:=by
 refine aD aW (fn:=Tryz.f403) (by kernel_rfl) rfl (by kernel_rfl) (by decide) (by simp) ?_
 simp
 exact ⟨.of (by kernel_rfl),.of (by kernel_rfl)⟩
theorem HR (a b:Int):Cf En 338 [.d (.int .i64 a),.d (.int .i64 b)] [] (.d (.int .i64 (eQ a b))) []:=by
 refine aD aW (fn:=Tryz.f338) (by kernel_rfl) rfl (by kernel_rfl) (by decide) (by simp) ?_
 simp
 refine ⟨.of (by kernel_rfl),aA (ET a) (by simp) ?_⟩
 simp
 refine ⟨.of (by kernel_rfl),aA (ET b) (by simp) ?_⟩
 simp
 repeat' (first | intro _ | refine And.intro ?_ ?_)
 all_goals first | exact .of (by kernel_rfl) | skip
 all_goals (unfold eQ; grind)
theorem VP (a b:Int):Cf En 385 [.d (.int .i64 a),.d (.int .i64 b)] [] (.d (.int .i64 (eQ a b))) []:=by
 refine aD aW (fn:=Tryz.f385) (by kernel_rfl) rfl (by kernel_rfl) (by decide) (by simp) ?_
 simp
 refine ⟨.of (by kernel_rfl),aA (xE a) (by simp) ?_⟩
 simp
 refine ⟨.of (by kernel_rfl),aA (xE b) (by simp) ?_⟩
 simp
 repeat' (first | intro _ | refine And.intro ?_ ?_)
 all_goals first | exact .of (by kernel_rfl) | skip
 all_goals (unfold eQ; grind)
theorem PY (a b:List UInt8):Cf En 386 [.d (.str a),.d (.str b)] [] (.d (.int .i64 (oZ a b))) []:=by
 refine aD aW (fn:=Tryz.f386) (by kernel_rfl) rfl (by kernel_rfl) (by decide) (by simp) ?_
 simp
 refine ⟨.of (by kernel_rfl),aA (uR a) (by simp) ?_⟩
 simp
 refine ⟨.of (by kernel_rfl),aA (uR b) (by simp) ?_⟩
 simp
 repeat' (first | intro _ | refine And.intro ?_ ?_)
 all_goals first | exact .of (by kernel_rfl) | skip
 all_goals (unfold oZ; grind)
theorem aAO (l:List Int) (hl:l.length≤1000000):Cf En 337 [.d (.sl (l.map fun n=>[.int .i64 n]))] [] (.d (.int .i64 (wJ l))) []:=by
 refine aD aW (fn:=Tryz.f337) (by kernel_rfl) rfl (by kernel_rfl) (by decide) (by simp) ?_
 simp
 refine ⟨.of (by kernel_rfl),.of (by kernel_rfl),.of (by kernel_rfl),?_⟩
 refine aL aW (by decide) (fun i:Nat=>{ s:=cG [(3,.d (.int .i64 0)),(6,.d (.sl (l.map fun n=>[.int .i64 n]))),(7,.d (.int .i64 l.length)),(8,.d (.int .i64 i))],b:=cE [] }) (fun i:Nat=>i≤l.length∧wJ (l.drop i)=wJ l) (fun i=>l.length - i) 0 (by simp) (aE _ [] .nil (by simp)) ?_
 rintro i ⟨hi,ho⟩
 simp
 refine ⟨.of (by kernel_rfl),fun hlt=>?_,fun hle=>?_⟩
 ·have hg:l[i]?=some l[i]:=List.getElem?_eq_getElem hlt
  have hd:=VO hg
  simp [hg]
  refine ⟨.of (by kernel_rfl),.of (by kernel_rfl),fun h=>?_,fun h=>?_⟩
  ·exact ⟨.of (by kernel_rfl),by rw [← ho,hd]; simp [h]⟩
  ·refine ⟨.of (by kernel_rfl),i+1,⟨hlt,?_⟩,?_,?_⟩
   ·rw [← ho,hd]; simp [h]
   ·refine aE _ [] .nil ?_
    simp
    exact aH (by omega) (by omega)
   ·simp; omega
 ·refine ⟨.of (by kernel_rfl),?_⟩
  have:i=l.length:=by omega
  subst this
  simpa [wJ] using ho
theorem EU (v u:V):Cf En 339 [v.a,u.a] [] (.d (.int .i64 (v.cmp u))) []:=by
 refine aD aW (fn:=Tryz.f339) (by kernel_rfl) rfl (by kernel_rfl) (by decide) (by simp) ?_
 simp [V.a]
 refine ⟨.of (by kernel_rfl),aA (HR v.k u.k) (by simp) ?_⟩
 simp
 refine aA (VP v.n u.n) (by simp) ?_
 simp
 refine aA (PY v.t u.t) (by simp) ?_
 simp
 refine aA (aAO [eQ v.k u.k,eQ v.n u.n,oZ v.t u.t] (by simp)) (by simp) ?_
 simp
 exact ⟨.of (by kernel_rfl),rfl⟩
theorem aAP (v u:V):Cf En 276 [v.a,u.a] [] (.d (.bool (v.same u))) []:=by
 refine aD aW (fn:=Tryz.f276) (by kernel_rfl) rfl (by kernel_rfl) (by decide) (by simp) ?_
 simp [V.a]
 exact ⟨.of (by kernel_rfl),.of (by kernel_rfl),by simp [V.same]⟩
theorem rG (v u:V):Cf En 167 [v.a,u.a] [] (.d (.int .i64 (v.cmp u))) []:=by
 refine aD aW (fn:=Tryz.f167) (by kernel_rfl) rfl (by kernel_rfl) (by decide) (by simp) ?_
 simp [V.a]
 repeat' (first | intro _ | refine And.intro ?_ ?_)
 all_goals first | exact .of (by kernel_rfl) | skip
 all_goals (simp only [V.cmp,wJ,eQ,oZ]; grind)
theorem aAQ (v u:V):Cf En 175 [v.a,u.a] [] (.d (.bool (v.cmp u==0))) []:=by
 refine aD aW (fn:=Tryz.f175) (by kernel_rfl) rfl (by kernel_rfl) (by decide) (by simp) ?_
 simp [V.a]
 refine ⟨.of (by kernel_rfl),aA (rG v u) (by simp [V.a]) ?_⟩
 simp
 exact .of (by kernel_rfl)
@[simp] theorem aDC (r:Nat→Option Nat) (bl:Nat→Blk) (kn:Bool):∀ l:List D,cQ r bl kn (l.map AV.d)=(l.map AV.d,[])
  | []=>rfl
  | x::l=>by rw [List.map_cons,cQ,aDC r bl kn l]; rfl
@[simp] theorem aDD (bl:Nat→Blk):∀ l:List D,kA bl (l.map AV.d)=some (l,[])
  | []=>rfl
  | x::l=>by rw [List.map_cons,kA,aDD bl l]; rfl
@[simp] theorem aBE:∀ l:List D,List.flatMap AV.names (l.map AV.d)=[]
  | []=>rfl
  | x::l=>by rw [List.map_cons,List.flatMap_cons,aBE l]; rfl
inductive Ex where
 | mk (o c n:Int) (t:List UInt8) (g:Int) (kids:List Ex)
def Ex.kids:Ex→List Ex | .mk _ _ _ _ _ ks=>ks
mutual
def Ex.c:Ex→List D
 | .mk o c n t g ks=>[.int .i64 o,.int .i64 c,.int .i64 n,.str t,.int .i64 g,.sl (cA ks)]
def cA:List Ex→List (List D)
 | []=>[]
 | e::es=>e.c::cA es
end
theorem aC:∀ l:List Ex,cA l=l.map Ex.c
 | []=>rfl
 | e::es=>by rw [cA,aC es]; rfl
def Ex.a (e:Ex):AV:=.agg (e.c.map AV.d)
theorem Ex.kid_lt {e k:Ex} (h:k∈e.kids):SizeOf.sizeOf k<SizeOf.sizeOf e:=by
 cases e
 have:=List.sizeOf_lt_of_mem h
 simp only [Ex.kids] at this
 simp only [Ex.mk.sizeOf_spec]
 omega
theorem Ex.clen (e:Ex):e.c.length=6:=by cases e; rfl
theorem Ex.ctake (e:Ex):List.take 6 (e.c.map AV.d)=e.c.map AV.d:=List.take_of_length_le (by simp [Ex.clen])
theorem Ex.ctake' (e:Ex):List.take 6 e.c=e.c:=List.take_of_length_le (by simp [Ex.clen])
theorem DO (a:Int):eQ a a=0:=by unfold eQ; simp
theorem nJ:∀ a:List UInt8,Op.bytesLess a a=false
 | []=>rfl
 | a::l=>by simp [Op.bytesLess,nJ l]
theorem DP:∀ a b:List UInt8,Op.bytesLess a b=true→Op.bytesLess b a=false
 | [],[],h=>by simp [Op.bytesLess] at h
 | [],_::_,_=>rfl
 | _::_,[],h=>by simp [Op.bytesLess] at h
 | x::a,y::b,h=>by
   simp only [Op.bytesLess,Bool.or_eq_true,decide_eq_true_eq,Bool.and_eq_true,beq_iff_eq,Bool.or_eq_false_iff,decide_eq_false_iff_not] at *
   rcases h with h | ⟨rfl,h⟩
   ·refine ⟨fun h2=>?_,?_⟩
    ·rw [UInt8.lt_iff_toNat_lt] at h h2; omega
    ·have:(y==x)=false:=by
      rw [beq_eq_false_iff_ne]; rintro rfl; rw [UInt8.lt_iff_toNat_lt] at h; omega
     simp [this]
   ·exact ⟨by rw [UInt8.lt_iff_toNat_lt]; omega,by simp [DP a b h]⟩
theorem JS:∀ a b:List UInt8,Op.bytesLess a b=false→Op.bytesLess b a=false→a=b
 | [],[],_,_=>rfl
 | [],_::_,h,_=>by simp [Op.bytesLess] at h
 | _::_,[],_,h=>by simp [Op.bytesLess] at h
 | x::a,y::b,h1,h2=>by
   simp only [Op.bytesLess,Bool.or_eq_false_iff,decide_eq_false_iff_not,Bool.and_eq_false_imp,beq_iff_eq] at h1 h2
   have:x=y:=by
    apply UInt8.toNat_inj.1
    have a1:=h1.1; have a2:=h2.1
    rw [UInt8.lt_iff_toNat_lt] at a1 a2
    omega
   subst this
   rw [JS a b (h1.2 rfl) (h2.2 rfl)]
theorem zX:∀ a b c:List UInt8,Op.bytesLess a b=true→Op.bytesLess b c=true→Op.bytesLess a c=true
 | _,[],_,h,_=>by cases ‹List UInt8› <;> simp [Op.bytesLess] at h
 | _,_::_,[],_,h=>by simp [Op.bytesLess] at h
 | [],_::_,_::_,_,_=>rfl
 | x::a,y::b,z::c,h1,h2=>by
   simp only [Op.bytesLess,Bool.or_eq_true,decide_eq_true_eq,Bool.and_eq_true,beq_iff_eq] at *
   rcases h1 with h1 | ⟨rfl,h1⟩ <;> rcases h2 with h2 | ⟨rfl,h2⟩
   ·left; rw [UInt8.lt_iff_toNat_lt] at *; omega
   ·exact .inl h1
   ·exact .inl h2
   ·exact .inr ⟨rfl,zX a b c h1 h2⟩
theorem zY (a b:Int):(a<b∧eQ a b=-1∧eQ b a=1)∨(a=b∧eQ a b=0∧eQ b a=0)∨(b<a∧eQ a b=1∧eQ b a=-1):=by
 unfold eQ; grind
theorem sF (a b:List UInt8):(Op.bytesLess a b=true∧oZ a b=-1∧oZ b a=1)∨(a=b∧oZ a b=0∧oZ b a=0)∨(Op.bytesLess b a=true∧oZ a b=1∧oZ b a=-1):=by
 unfold oZ
 cases h1:Op.bytesLess a b with
 | true =>
   have h2:=DP a b h1
   have:¬ b=a:=fun e=>by subst e; rw [nJ] at h1; cases h1
   simp [h2,this]
 | false =>
   cases h2:Op.bytesLess b a with
   | true =>
     have:¬ a=b:=fun e=>by subst e; rw [nJ] at h2; cases h2
     simp [this]
   | false =>
     have:=JS a b h1 h2
     subst this; simp
theorem V.cmp_def (v u:V):v.cmp u=if eQ v.k u.k ≠ 0 then eQ v.k u.k else if eQ v.n u.n ≠ 0 then eQ v.n u.n else oZ v.t u.t:=by
 simp only [V.cmp,wJ]; grind
theorem V.cmp_self (v:V):v.cmp v=0:=by
 rw [V.cmp_def,DO,DO]
 simp [oZ,nJ]
theorem V.same_cmp (v u:V):v.same u=(v.cmp u==0):=by
 rw [V.cmp_def,V.same,Bool.eq_iff_iff]
 simp only [Bool.and_eq_true,beq_iff_eq]
 rcases zY v.k u.k with h | h | h
 ·have:¬ v.k=u.k:=by omega
  simp [h.2,this]
 ·rcases zY v.n u.n with h' | h' | h'
  ·have:¬ v.n=u.n:=by omega
   simp [h.2,h'.2,this]
  ·rcases sF v.t u.t with h2 | h2 | h2
   ·have:¬ v.t=u.t:=fun e=>by rw [e,nJ] at h2; cases h2.1
    simp [h.2,h'.2,h2.2,this]
   ·simp only [h.2.1,h'.2.1,h2.2.1]; simp [h.1,h'.1,h2.1]
   ·have:¬ v.t=u.t:=fun e=>by rw [e,nJ] at h2; cases h2.1
    simp [h.2,h'.2,h2.2,this]
  ·have:¬ v.n=u.n:=by omega
   simp [h.2,h'.2,this]
 ·have:¬ v.k=u.k:=by omega
  simp [h.2,this]
theorem zZ {a b c:Int} (h1:eQ a b≤0) (h2:eQ b c≤0):eQ a c≤0∧(eQ a c=0→eQ a b=0∧eQ b c=0):=by
 unfold eQ at *; grind
theorem OE {a b c:List UInt8} (h1:oZ a b≤0) (h2:oZ b c≤0):oZ a c≤0:=by
 rcases sF a b with x | x | x
 ·rcases sF b c with y | y | y
  ·have:=zX a b c x.1 y.1
   simp [oZ,this]
  ·rw [← y.1]; omega
  ·omega
 ·rw [x.1]; exact h2
 ·omega
theorem V.cmp_le {v u:V}:v.cmp u≤0↔eQ v.k u.k<0∨(eQ v.k u.k=0∧(eQ v.n u.n<0∨(eQ v.n u.n=0∧oZ v.t u.t≤0))):=by
 rw [V.cmp_def]
 split
 ·omega
 ·split <;> omega
theorem V.cmp_trans {a b c:V} (h1:a.cmp b≤0) (h2:b.cmp c≤0):a.cmp c≤0:=by
 rw [V.cmp_le] at *
 have k:=@zZ a.k b.k c.k
 have n:=@zZ a.n b.n c.n
 have s:=@OE a.t b.t c.t
 have k1:eQ a.k b.k≤0:=by omega
 have k2:eQ b.k c.k≤0:=by omega
 have k3:=k k1 k2
 by_cases e:eQ a.k c.k=0
 ·have e2:=k3.2 e
  have n1:eQ a.n b.n≤0:=by omega
  have n2:eQ b.n c.n≤0:=by omega
  have n3:=n n1 n2
  by_cases f:eQ a.n c.n=0
  ·have f2:=n3.2 f
   exact .inr ⟨e,.inr ⟨f,s (by omega) (by omega)⟩⟩
  ·exact .inr ⟨e,.inl (by omega)⟩
 ·exact .inl (by omega)
def CM (c:Nat):Bool:=decide (c<32)||(decide (126<c)||c==39)
def qQ (b:UInt8):Bool:=CM b.toNat
def nW (s:List UInt8):Int:=match s.findIdx? qQ with
 | some i=>i
 | none=>-1
def mY (s:List UInt8):Bool:=decide (s.length≤24)&&!s.any qQ
theorem LT (s:List UInt8) (i:Nat) (h:i<s.length):(ByteArray.get! ⟨s.toArray⟩ i)=s[i]:=by
 simp [ByteArray.get!,h]
theorem SC {s:List UInt8} {i:Nat} (h:i<s.length) (hb:s[i].toNat<128):Utf8.decode ⟨s.toArray⟩ i=(s[i].toNat,1):=by
 unfold Utf8.decode
 simp only [Nat.add_zero,LT s i h,hb,if_true]
theorem aAE {s:List UInt8} {i:Nat} (h:i<s.length) (hb:128≤s[i].toNat):128≤(Utf8.decode ⟨s.toArray⟩ i).1:=by
 unfold Utf8.decode
 simp only [Nat.add_zero,LT s i h,show ¬ s[i].toNat<128 from by omega,if_false]
 repeat' split
 all_goals first | (simp [Utf8.runeError]; done) | skip
 all_goals simp_all
 all_goals omega
theorem aCS {s:List UInt8} {i:Nat} (h:i<s.length):CM (Utf8.decode ⟨s.toArray⟩ i).1=qQ s[i]:=by
 unfold qQ
 by_cases hb:s[i].toNat<128
 ·rw [SC h hb]
 ·have:=aAE h (by omega)
  have h1:CM (Utf8.decode ⟨s.toArray⟩ i).1=true:=by unfold CM; simp; omega
  have h2:CM s[i].toNat=true:=by unfold CM; simp; omega
  rw [h1,h2]
theorem aEv {s:List UInt8} {i:Nat} (h:i<s.length) (hb:qQ s[i]=false):(Utf8.decode ⟨s.toArray⟩ i).2=1:=by
 have:s[i].toNat<128:=by unfold qQ CM at hb; simp at hb; omega
 rw [SC h this]
theorem aAF (c:Nat):Cf En 347 [.d (.int .i32 c)] [] (.d (.bool (CM c))) []:=by
 refine aD aW (fn:=Tryz.f347) (by kernel_rfl) rfl (by kernel_rfl) (by decide) (by simp) ?_
 unfold CM
 by_cases h1:c<32
 ·have h1':(c:Int)<32:=by omega
  simp [h1,h1']
  exact ⟨.of (by kernel_rfl),.of (by kernel_rfl)⟩
 ·have h1':¬ (c:Int)<32:=by omega
  by_cases h2:126<c
  ·have h2':(126:Int)<c:=by omega
   simp [h1,h1',h2,h2']
   exact ⟨.of (by kernel_rfl),.of (by kernel_rfl)⟩
  ·have h2':¬ (126:Int)<c:=by omega
   simp [h1,h1',h2,h2']
   exact ⟨.of (by kernel_rfl),.of (by kernel_rfl),by rw [Bool.eq_iff_iff]; simp; omega⟩
theorem PX (s:List UInt8) (hl:s.length≤1000000):Cf En 389 [.d (.str s),.clo 347 [],.d (.bool true)] [] (.d (.int .i64 (nW s))) []:=by
 refine aD aW (fn:=Tryz.f389) (by kernel_rfl) rfl (by kernel_rfl) (by decide) (by simp) ?_
 simp
 refine ⟨.of (by kernel_rfl),.of (by kernel_rfl),?_⟩
 refine aL aW (by decide) (fun i:Nat=>{ s:=cG [(0,.d (.str s)),(1,.clo 347 []),(2,.d (.bool true)),(10,.ptr 10 0 0)],b:=cE [(10,10,.iter s i)] }) (fun i:Nat=>i≤s.length∧∀ j (h:j<s.length),j<i→qQ s[j]=false) (fun i=>s.length - i) 0 (by simp) (aE _ _ ⟨by simp,by simp,by simp [aB,Blk.live],by simp⟩ (by simp [aB])) ?_
 rintro i ⟨hi,ho⟩
 by_cases hlt:i<s.length
 ·simp [hlt]
  refine ⟨.of (by kernel_rfl),.of (by kernel_rfl),aA (aAF (Utf8.decode ⟨s.toArray⟩ i).1) (by simp) ?_⟩
  simp
  have hb:=aCS hlt
  refine ⟨.of (by kernel_rfl),fun h=>⟨.of (by kernel_rfl),?_⟩,fun h=>⟨i+1,⟨hlt,?_⟩,?_,?_⟩⟩
  ·rw [hb] at h
   unfold nW
   have:s.findIdx? qQ=some i:=by
    rw [List.findIdx?_eq_some_iff_getElem]
    exact ⟨hlt,h,fun j hj=>by simp [ho j (by omega) hj]⟩
   rw [this]
  ·intro j hj hji
   rcases Nat.lt_or_ge j i with c | c
   ·exact ho j hj c
   ·have:j=i:=by omega
    subst this
    rw [← hb]; exact h
  ·refine aE _ [(10,10,.iter s (i+1))] ⟨by simp,by simp,?_,by simp⟩ (by simp [aB])
   rw [hb] at h
   simp [aB,Blk.live,aEv hlt h]
  ·simp; omega
 ·simp [hlt]
  refine ⟨.of (by kernel_rfl),.of (by kernel_rfl),?_⟩
  unfold nW
  have:s.findIdx? qQ=none:=by
   rw [List.findIdx?_eq_none_iff]
   intro b hb
   obtain ⟨j,hj,rfl⟩:=List.getElem_of_mem hb
   exact ho j hj (by omega)
  rw [this]
theorem LU (s:List UInt8) (hl:s.length≤1000000):Cf En 346 [.d (.str s),.clo 347 []] [] (.d (.int .i64 (nW s))) []:=by
 refine aD aW (fn:=Tryz.f346) (by kernel_rfl) rfl (by kernel_rfl) (by decide) (by simp) ?_
 simp
 refine ⟨.of (by kernel_rfl),aA (PX s hl) (by simp) ?_⟩
 simp
 exact .of (by kernel_rfl)
theorem HL (s:List UInt8):decide (nW s<0)=!s.any qQ:=by
 unfold nW
 cases h:s.findIdx? qQ with
 | none =>
   rw [List.findIdx?_eq_none_iff] at h
   have:s.any qQ=false:=by rw [List.any_eq_false]; intro x hx; simp [h x hx]
   simp [this]
 | some i =>
   rw [List.findIdx?_eq_some_iff_getElem] at h
   obtain ⟨hi,h,_⟩:=h
   have:s.any qQ=true:=List.any_eq_true.2 ⟨_,List.getElem_mem hi,h⟩
   simp [this]
theorem aEw (s:List UInt8):Cf En 286 [.d (.str s)] [] (.d (.bool (mY s))) []:=by
 refine aD aW (fn:=Tryz.f286) (by kernel_rfl) rfl (by kernel_rfl) (by decide) (by simp) ?_
 have hn:=HL s
 unfold mY
 by_cases h:s.length≤24
 ·have h':(s.length:Int)≤24:=by omega
  simp [h,h']
  refine ⟨.of (by kernel_rfl),aA (LU s (by omega)) (by simp) ?_⟩
  simp [h']
  exact ⟨.of (by kernel_rfl),by rw [hn]; simp [h]⟩
 ·have h':¬ (s.length:Int)≤24:=by omega
  simp [h,h']
  exact ⟨.of (by kernel_rfl),.of (by kernel_rfl)⟩
def V.valid (v:V):Bool :=
 if v.k=0 then v.n==0&&v.t==[]
 else if v.k=1 then decide (-1000000000000≤v.n)&&(decide (v.n≤1000000000000)&&v.t==[])
 else if v.k=2 then (v.n==0||v.n==1)&&v.t==[]
 else if v.k=3 then v.n==0&&mY v.t
 else false
theorem jG (v:V):Cf En 215 [v.a] [] (.d (.bool v.valid)) []:=by
 refine aD aW (fn:=Tryz.f215) (by kernel_rfl) rfl (by kernel_rfl) (by decide) (by simp) ?_
 obtain ⟨k,n,t⟩:=v
 unfold V.valid V.a
 simp
 repeat' (first | exact .of (by kernel_rfl) | refine And.intro ?_ ?_ | intro _)
 all_goals try (refine aN (fun h=>?_) (fun h=>?_) <;> (have h':=h; (try simp at h'); simp [h,h']))
 repeat' (first | exact .of (by kernel_rfl) | refine And.intro ?_ ?_ | intro _)
 all_goals try (refine aN (fun h=>?_) (fun h=>?_) <;> (have h':=h; (try simp at h'); simp [h,h']))
 repeat' (first | exact .of (by kernel_rfl) | refine And.intro ?_ ?_ | intro _)
 all_goals try (refine aN (fun h=>?_) (fun h=>?_) <;> (have h':=h; (try simp at h'); simp [h,h']))
 repeat' (first | exact .of (by kernel_rfl) | refine And.intro ?_ ?_ | intro _)
 all_goals try (refine aA (aEw t) (by simp) ?_; simp)
 repeat' (first | exact .of (by kernel_rfl) | refine And.intro ?_ ?_ | intro _)
 all_goals try (simp_all; done)
theorem aAh (b:UInt8):qQ b=(decide ((b.toNat:Int)<32)||(decide (126<(b.toNat:Int))||decide ((b.toNat:Int)=39))):=by
 unfold qQ CM
 rw [Bool.eq_iff_iff]
 simp
 omega
theorem rF (v:V):Cf En 107 [v.a] [] (.d (.bool v.valid)) []:=by
 refine aD aW (fn:=Tryz.f107) (by kernel_rfl) rfl (by kernel_rfl) (by decide) (by simp) ?_
 obtain ⟨k,n,t⟩:=v
 unfold V.valid V.a
 simp
 repeat' (first | exact .of (by kernel_rfl) | refine And.intro ?_ ?_ | intro _)
 all_goals try (refine aN (fun h=>?_) (fun h=>?_) <;> (have h':=h; (try simp at h'); simp [h,h']))
 repeat' (first | exact .of (by kernel_rfl) | refine And.intro ?_ ?_ | intro _)
 all_goals try (refine aN (fun h=>?_) (fun h=>?_) <;> (have h':=h; (try simp at h'); simp [h,h']))
 repeat' (first | exact .of (by kernel_rfl) | refine And.intro ?_ ?_ | intro _)
 all_goals try (refine aN (fun h=>?_) (fun h=>?_) <;> (have h':=h; (try simp at h'); simp [h,h']))
 repeat' (first | exact .of (by kernel_rfl) | refine And.intro ?_ ?_ | intro _)
 all_goals try (simp_all; done)
 ·simp_all [mY]; omega
 ·have hl:t.length≤24:=by omega
  refine aL aW (by decide) (fun i:Nat=>{ s:=cG [(1,.ptr 1 0 0),(3,.d (.int .i64 i))],b:=cE [(1,1,.var [.d (.int .i64 k),.d (.int .i64 0),.d (.str t)])] }) (fun i:Nat=>i≤t.length∧∀ j (h:j<t.length),j<i→qQ t[j]=false) (fun i=>t.length - i) 0 (by simp) (aE _ _ ⟨by simp,by simp,by simp [aB,Blk.live],by simp⟩ (by simp [aB])) ?_
  rintro i ⟨hi,ho⟩
  by_cases hlt:i<t.length
  ·have hg:t[i]?=some t[i]:=List.getElem?_eq_getElem hlt
   have hbd:=aAh t[i]
   simp [hlt,hg]
   have hbad:qQ t[i]=true→mY t=false:=fun h=>by
    unfold mY
    rw [List.any_eq_true.2 ⟨_,List.getElem_mem hlt,h⟩]
    simp
   refine ⟨.of (by kernel_rfl),?_⟩
   refine aN (fun h=>?_) (fun h=>?_) <;> (have h':=h; (try simp at h'); simp [h,h',hg])
   ·refine aN (fun h=>?_) (fun h=>?_) <;> (have h':=h; (try simp at h'); simp [h,h',hg])
    ·refine ⟨.of (by kernel_rfl),fun h3=>⟨.of (by kernel_rfl),?_⟩,fun h3=>⟨.of (by kernel_rfl),i+1,⟨hlt,?_⟩,?_,?_⟩⟩
     ·simp_all
     ·intro j hj hji
      rcases Nat.lt_or_ge j i with c | c
      ·exact ho j hj c
      ·have:j=i:=by omega
       subst this
       rw [hbd]; simp; omega
     ·refine aE _ [(1,1,_)] ⟨by simp,by simp,by simp [aB,Blk.live],by simp⟩ ?_
      simp [aB]
      exact aH (by omega) (by omega)
     ·simp; omega
    ·refine ⟨.of (by kernel_rfl),.of (by kernel_rfl),?_⟩
     simp_all
   ·refine ⟨.of (by kernel_rfl),.of (by kernel_rfl),?_⟩
    simp_all
  ·simp [hlt]
   refine ⟨.of (by kernel_rfl),.of (by kernel_rfl),?_⟩
   have:mY t=true:=by
    unfold mY
    simp [hl]
    intro x hx
    obtain ⟨j,hj,rfl⟩:=List.getElem_of_mem hx
    exact ho j hj (by omega)
   simp_all
mutual
def Ex.few:Ex→Nat→Bool
 | .mk _ _ _ t _ ks,d=>if 60<d then false else if 12<ks.length then false else if 200<t.length then false else fL ks (d+1)
def fL:List Ex→Nat→Bool
 | [],_=>true
 | e::es,d=>e.few d&&fL es d
end
theorem oP:∀ (l:List Ex) (d:Nat),fL l d=l.all fun e=>e.few d
 | [],_=>rfl
 | e::es,d=>by rw [fL,oP es d]; rfl
mutual
def Ex.size:Ex→Int
 | .mk _ _ _ _ _ ks=>dL 1 ks
def dL:Int→List Ex→Int
 | a,[]=>a
 | a,e::es=>dL (IntKind.i64.wrap (a+e.size)) es
end
theorem uB {l:List Ex} {i:Nat} {x:Ex} (a:Int) (h:l[i]?=some x):dL a (l.drop i)=dL (IntKind.i64.wrap (a+x.size)) (l.drop (i+1)):=by
 obtain ⟨hi,rfl⟩:=List.getElem?_eq_some_iff.1 h
 rw [List.drop_eq_getElem_cons hi,dL]
mutual
def Ex.fits:Ex→Prop
 | .mk _ _ _ _ _ ks=>ks.length≤9223372036854775807∧iO ks
def iO:List Ex→Prop
 | []=>True
 | e::es=>e.fits∧iO es
end
theorem mI:∀ (l:List Ex),iO l→∀ e∈l,e.fits
 | e::es,h,x,hx=>by
   rcases List.mem_cons.1 hx with rfl | hx
   ·exact h.1
   ·exact mI es h.2 x hx
theorem GN:∀ (m:Nat) (e:Ex),SizeOf.sizeOf e<m→e.fits→Cf En 66 [e.a] [] (.d (.int .i64 e.size)) []
 | 0,_,h,_=>absurd h (by omega)
 | m+1,.mk o c n t g ks,hm,hfit=>by
   refine aD aW (fn:=Tryz.f66) (by kernel_rfl) rfl (by kernel_rfl) (by decide) (by simp) ?_
   have hf:Ex.size (.mk o c n t g ks)=dL 1 ks:=by rw [Ex.size]
   rw [hf]
   rw [Ex.fits] at hfit
   generalize hres:dL 1 ks=res
   simp [Ex.a,Ex.c,aC]
   refine ⟨.of (by kernel_rfl),.of (by kernel_rfl),.of (by kernel_rfl),?_⟩
   refine aL aW (by decide) (fun p:Nat×Int=>{ s:=cG [(1,.ptr 1 0 0),(3,.d (.int .i64 p.2)),(4,.d (.int .i64 p.1))],b:=cE [(1,1,.var (Ex.a (.mk o c n t g ks)).cells)] }) (fun p=>p.1≤ks.length∧dL p.2 (ks.drop p.1)=res) (fun p=>ks.length - p.1) (0,1) (by simp [hres]) (aE _ _ ⟨by simp,by simp,by simp [aB,Blk.live,Ex.a,Ex.c,aC],by simp⟩ (by simp [aB])) ?_
   rintro ⟨i,acc⟩ ⟨hi,ho⟩
   simp only at hi ho
   by_cases hlt:i<ks.length
   ·have hlt':(i:Int)<ks.length:=by omega
    have hg:ks[i]?=some ks[i]:=List.getElem?_eq_getElem hlt
    have hdr:=uB acc hg
    have hlen:ks[i].c.length=6:=by cases ks[i]; rfl
    have htk:List.take 6 (List.map AV.d ks[i].c)=List.map AV.d ks[i].c:=List.take_of_length_le (by simp [hlen])
    simp [Ex.a,Ex.c,aC,hlt,hlt',hg,hlen,htk]
    have hkid:SizeOf.sizeOf ks[i]<m:=by
     have:=Ex.kid_lt (e:=.mk o c n t g ks) (k:=ks[i]) (List.getElem_mem hlt)
     omega
    refine ⟨.of (by kernel_rfl),aA (GN m ks[i] hkid (mI ks hfit.2 _ (List.getElem_mem hlt))) (by simp [Ex.a]) ?_⟩
    simp
    refine ⟨.of (by kernel_rfl),.of (by kernel_rfl),(i+1,IntKind.i64.wrap (acc+ks[i].size)),⟨hlt,?_⟩,?_,?_⟩
    ·rw [← ho,hdr]
    ·refine aE _ [(1,1,_)] ⟨by simp,by simp,by simp [aB,Blk.live,Ex.a,Ex.c,aC],by simp⟩ ?_
     simp [aB]
     exact aH (by omega) (by omega)
    ·simp; omega
   ·have hlt':¬ (i:Int)<ks.length:=by omega
    simp [Ex.a,Ex.c,aC,hlt,hlt']
    refine ⟨.of (by kernel_rfl),.of (by kernel_rfl),?_⟩
    rw [← ho,List.drop_eq_nil_of_le (by omega)]; rfl
def Ex.ok (e:Ex):Bool:=e.few 0&&decide (e.size≤600)
end Go.Proofs.Tryz
