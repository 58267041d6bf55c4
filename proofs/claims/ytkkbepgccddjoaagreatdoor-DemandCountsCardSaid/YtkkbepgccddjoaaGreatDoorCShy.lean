import Derived.Test.YtkkbepgccddjoaaGreatDoorAbB
import Derived.Test.YtkkbepgccddjoaaGreatDoorProg
import Derived.Shelf.Strings.Search3
set_option linter.all false
namespace Go.Proofs.Tryz
open Go.Ab
noncomputable def En:eC:=⟨Tryz.prog,fun g=>if g=1 then some [.int .i64 0,.int .i64 0,.str []] else none⟩
@[simp] theorem aJU:En.P=Tryz.prog:=id rfl
@[simp] theorem aJf (g:Nat):En.G g=if g=1 then some [.int .i64 0,.int .i64 0,.str []] else none:=rfl
theorem aW:En.P.follows .mixedOrders=true:=by kernel_rfl
@[simp] theorem aJJ:bX Tryz.prog 2=some { size:=1,bytes:=8,zero:=some [Value.int IntKind.i64 (0)],kind:=TK.int IntKind.i64 }:=by kernel_rfl
@[simp] theorem aJK:bX Tryz.prog 3=some { size:=1,bytes:=8,zero:=some [Value.int IntKind.i64 (0)],kind:=TK.int IntKind.i64 }:=by kernel_rfl
@[simp] theorem aJL:bX Tryz.prog 4=some { size:=1,bytes:=1,zero:=some [Value.bool false],kind:=TK.bool }:=by kernel_rfl
@[simp] theorem aJM:bX Tryz.prog 5=some { size:=1,bytes:=1,zero:=some [Value.int IntKind.u8 (0)],kind:=TK.int IntKind.u8 }:=by kernel_rfl
@[simp] theorem aJN:bX Tryz.prog 9=some { size:=1,bytes:=16,zero:=some [Value.string { data:={ toList:=[] } }],kind:=TK.string }:=by kernel_rfl
@[simp] theorem aJg:bX Tryz.prog 22=some { size:=1,bytes:=24,zero:=some [Value.slice none 0 0],kind:=TK.slice 3 }:=by kernel_rfl
@[simp] theorem aJh:bX Tryz.prog 25=some { size:=2,bytes:=32,zero:=some [Value.slice none 0 0,Value.int IntKind.i64 (0)],kind:=TK.struct [(0,1,false),(1,1,false)] }:=by kernel_rfl
@[simp] theorem aJi:bX Tryz.prog 26=some { size:=1,bytes:=24,zero:=some [Value.slice none 0 0],kind:=TK.slice 82 }:=by kernel_rfl
@[simp] theorem aJj:bX Tryz.prog 28=some { size:=1,bytes:=24,zero:=some [Value.slice none 0 0],kind:=TK.struct [(0,1,false)] }:=by kernel_rfl
@[simp] theorem aJk:bX Tryz.prog 31=some { size:=1,bytes:=24,zero:=some [Value.slice none 0 0],kind:=TK.slice 103 }:=by kernel_rfl
@[simp] theorem aJl:bX Tryz.prog 33=some { size:=1,bytes:=24,zero:=some [Value.slice none 0 0],kind:=TK.struct [(0,1,false)] }:=by kernel_rfl
@[simp] theorem aJm:bX Tryz.prog 35=some { size:=1,bytes:=24,zero:=some [Value.slice none 0 0],kind:=TK.slice 43 }:=by kernel_rfl
@[simp] theorem aJn:bX Tryz.prog 37=some { size:=1,bytes:=24,zero:=some [Value.slice none 0 0],kind:=TK.struct [(0,1,false)] }:=by kernel_rfl
@[simp] theorem aJo:bX Tryz.prog 43=some { size:=1,bytes:=24,zero:=some [Value.slice none 0 0],kind:=TK.slice 48 }:=by kernel_rfl
@[simp] theorem aJp:bX Tryz.prog 48=some { size:=1,bytes:=24,zero:=some [Value.slice none 0 0],kind:=TK.slice 92 }:=by kernel_rfl
@[simp] theorem aJq:bX Tryz.prog 54=some { size:=1,bytes:=24,zero:=some [Value.slice none 0 0],kind:=TK.slice 89 }:=by kernel_rfl
@[simp] theorem aJr:bX Tryz.prog 56=some { size:=3,bytes:=64,zero:=some [Value.string { data:={ toList:=[] } },Value.slice none 0 0,Value.slice none 0 0],kind:=TK.struct [(0,1,false),(1,1,false),(2,1,false)] }:=by kernel_rfl
@[simp] theorem aJs:bX Tryz.prog 64=some { size:=4,bytes:=72,zero:=some [Value.string { data:={ toList:=[] } },Value.slice none 0 0,Value.slice none 0 0,Value.int IntKind.i64 (0)],kind:=TK.struct [(0,3,true),(3,1,false)] }:=by kernel_rfl
@[simp] theorem aJt:bX Tryz.prog 65=some { size:=1,bytes:=24,zero:=some [Value.slice none 0 0],kind:=TK.slice 64 }:=by kernel_rfl
@[simp] theorem aJu:bX Tryz.prog 76=some { size:=1,bytes:=4,zero:=some [Value.int IntKind.u32 (0)],kind:=TK.int IntKind.u32 }:=by kernel_rfl
@[simp] theorem aJv:bX Tryz.prog 78=some { size:=1,bytes:=24,zero:=some [Value.slice none 0 0],kind:=TK.slice 85 }:=by kernel_rfl
@[simp] theorem aJw:bX Tryz.prog 79=some { size:=1,bytes:=24,zero:=some [Value.slice none 0 0],kind:=TK.slice 22 }:=by kernel_rfl
@[simp] theorem aJx:bX Tryz.prog 80=some { size:=1,bytes:=24,zero:=some [Value.slice none 0 0],kind:=TK.slice 87 }:=by kernel_rfl
@[simp] theorem aJy:bX Tryz.prog 82=some { size:=6,bytes:=136,zero:=some [Value.string { data:={ toList:=[] } },Value.slice none 0 0,Value.slice none 0 0,Value.slice none 0 0,Value.slice none 0 0,Value.slice none 0 0],kind:=TK.struct [(0,1,false),(1,1,false),(2,1,false),(3,1,false),(4,1,false),(5,1,false)] }:=by kernel_rfl
@[simp] theorem aJz:bX Tryz.prog 85=some { size:=3,bytes:=32,zero:=some [Value.string { data:={ toList:=[] } },Value.int IntKind.i64 (0),Value.bool false],kind:=TK.struct [(0,1,false),(1,1,false),(2,1,false)] }:=by kernel_rfl
@[simp] theorem aJA:bX Tryz.prog 87=some { size:=2,bytes:=40,zero:=some [Value.slice none 0 0,Value.string { data:={ toList:=[] } }],kind:=TK.struct [(0,1,false),(1,1,false)] }:=by kernel_rfl
@[simp] theorem aJB:bX Tryz.prog 89=some { size:=6,bytes:=72,zero:=some [Value.int IntKind.i64 (0),Value.int IntKind.i64 (0),Value.int IntKind.i64 (0),Value.string { data:={ toList:=[] } },Value.int IntKind.i64 (0),Value.slice none 0 0],kind:=TK.struct [(0,1,false),(1,1,false),(2,1,false),(3,1,false),(4,1,false),(5,1,false)] }:=by kernel_rfl
@[simp] theorem aJC:bX Tryz.prog 92=some { size:=3,bytes:=32,zero:=some [Value.int IntKind.i64 (0),Value.int IntKind.i64 (0),Value.string { data:={ toList:=[] } }],kind:=TK.struct [(0,1,false),(1,1,false),(2,1,false)] }:=by kernel_rfl
@[simp] theorem aIv:pI Tryz.prog 92=some [TK.int IntKind.i64,TK.int IntKind.i64,TK.string]:=by kernel_rfl
@[simp] theorem aJD:bX Tryz.prog 94=some { size:=5,bytes:=48,zero:=some [Value.int IntKind.i64 (0),Value.int IntKind.i64 (0),Value.int IntKind.i64 (0),Value.int IntKind.i64 (0),Value.string { data:={ toList:=[] } }],kind:=TK.struct [(0,1,false),(1,1,false),(2,3,true)] }:=by kernel_rfl
@[simp] theorem aIw:pI Tryz.prog 94=some [TK.int IntKind.i64,TK.int IntKind.i64,TK.int IntKind.i64,TK.int IntKind.i64,TK.string]:=by kernel_rfl
@[simp] theorem aJE:bX Tryz.prog 99=some { size:=3,bytes:=56,zero:=some [Value.int IntKind.i64 (0),Value.slice none 0 0,Value.slice none 0 0],kind:=TK.struct [(0,1,false),(1,1,false),(2,1,false)] }:=by kernel_rfl
@[simp] theorem aIx:bX Tryz.prog 103=some { size:=1,bytes:=24,zero:=some [Value.slice none 0 0],kind:=TK.slice 99 }:=by kernel_rfl
@[simp] theorem aIy:bX Tryz.prog 111=some { size:=9,bytes:=208,zero:=some [Value.string { data:={ toList:=[] } },Value.slice none 0 0,Value.slice none 0 0,Value.slice none 0 0,Value.slice none 0 0,Value.slice none 0 0,Value.slice none 0 0,Value.slice none 0 0,Value.slice none 0 0],kind:=TK.struct [(0,6,true),(6,1,false),(7,1,false),(8,1,false)] }:=by kernel_rfl
@[simp] theorem aIz:bX Tryz.prog 127=some { size:=1,bytes:=8,zero:=some [Value.nilFunc],kind:=TK.other }:=by kernel_rfl
@[simp] theorem aIA:bX Tryz.prog 133=some { size:=1,bytes:=24,zero:=some [Value.slice none 0 0],kind:=TK.slice 5 }:=by kernel_rfl
@[simp] theorem aIB:bX Tryz.prog 136=some { size:=1,bytes:=24,zero:=some [Value.slice none 0 0],kind:=TK.slice 4 }:=by kernel_rfl
@[simp] theorem aIC:bX Tryz.prog 149=some { size:=1,bytes:=24,zero:=some [Value.slice none 0 0],kind:=TK.slice 178 }:=by kernel_rfl
@[simp] theorem aID:bX Tryz.prog 164=some { size:=1,bytes:=24,zero:=some [Value.slice none 0 0],kind:=TK.slice 2 }:=by kernel_rfl
@[simp] theorem aIE:bX Tryz.prog 165=some { size:=1,bytes:=24,zero:=some [Value.slice none 0 0],kind:=TK.slice 9 }:=by kernel_rfl
@[simp] theorem aIF:bX Tryz.prog 178=some { size:=1,bytes:=24,zero:=some [Value.slice none 0 0],kind:=TK.slice 94 }:=by kernel_rfl
@[simp] theorem aIG:bX Tryz.prog 185=some { size:=4,bytes:=40,zero:=some [Value.string { data:={ toList:=[] } },Value.int IntKind.i64 (0),Value.int IntKind.i64 (0),Value.int IntKind.i64 (0)],kind:=TK.struct [(0,1,false),(1,1,false),(2,1,false),(3,1,false)] }:=by kernel_rfl
@[simp] theorem aIH:bX Tryz.prog 203=some { size:=1,bytes:=8,zero:=some [Value.int IntKind.u64 (0)],kind:=TK.int IntKind.u64 }:=by kernel_rfl
@[simp] theorem aII:bX Tryz.prog 220=some { size:=1,bytes:=24,zero:=some [Value.slice none 0 0],kind:=TK.slice 221 }:=by kernel_rfl
@[simp] theorem aIJ:bX Tryz.prog 221=some { size:=1,bytes:=8,zero:=some [Value.map none],kind:=TK.other }:=by kernel_rfl
@[simp] theorem aIK:bX Tryz.prog 235=some { size:=116,bytes:=1160,zero:=some [Value.string { data:={ toList:=[] } },Value.int IntKind.i64 (0),Value.int IntKind.i64 (0),Value.int IntKind.i64 (0),Value.string { data:={ toList:=[] } },Value.int IntKind.i64 (0),Value.int IntKind.i64 (0),Value.int IntKind.i64 (0),Value.string { data:={ toList:=[] } },Value.int IntKind.i64 (0),Value.int IntKind.i64 (0),Value.int IntKind.i64 (0),Value.string { data:={ toList:=[] } },Value.int IntKind.i64 (0),Value.int IntKind.i64 (0),Value.int IntKind.i64 (0),Value.string { data:={ toList:=[] } },Value.int IntKind.i64 (0),Value.int IntKind.i64 (0),Value.int IntKind.i64 (0),Value.string { data:={ toList:=[] } },Value.int IntKind.i64 (0),Value.int IntKind.i64 (0),Value.int IntKind.i64 (0),Value.string { data:={ toList:=[] } },Value.int IntKind.i64 (0),Value.int IntKind.i64 (0),Value.int IntKind.i64 (0),Value.string { data:={ toList:=[] } },Value.int IntKind.i64 (0),Value.int IntKind.i64 (0),Value.int IntKind.i64 (0),Value.string { data:={ toList:=[] } },Value.int IntKind.i64 (0),Value.int IntKind.i64 (0),Value.int IntKind.i64 (0),Value.string { data:={ toList:=[] } },Value.int IntKind.i64 (0),Value.int IntKind.i64 (0),Value.int IntKind.i64 (0),Value.string { data:={ toList:=[] } },Value.int IntKind.i64 (0),Value.int IntKind.i64 (0),Value.int IntKind.i64 (0),Value.string { data:={ toList:=[] } },Value.int IntKind.i64 (0),Value.int IntKind.i64 (0),Value.int IntKind.i64 (0),Value.string { data:={ toList:=[] } },Value.int IntKind.i64 (0),Value.int IntKind.i64 (0),Value.int IntKind.i64 (0),Value.string { data:={ toList:=[] } },Value.int IntKind.i64 (0),Value.int IntKind.i64 (0),Value.int IntKind.i64 (0),Value.string { data:={ toList:=[] } },Value.int IntKind.i64 (0),Value.int IntKind.i64 (0),Value.int IntKind.i64 (0),Value.string { data:={ toList:=[] } },Value.int IntKind.i64 (0),Value.int IntKind.i64 (0),Value.int IntKind.i64 (0),Value.string { data:={ toList:=[] } },Value.int IntKind.i64 (0),Value.int IntKind.i64 (0),Value.int IntKind.i64 (0),Value.string { data:={ toList:=[] } },Value.int IntKind.i64 (0),Value.int IntKind.i64 (0),Value.int IntKind.i64 (0),Value.string { data:={ toList:=[] } },Value.int IntKind.i64 (0),Value.int IntKind.i64 (0),Value.int IntKind.i64 (0),Value.string { data:={ toList:=[] } },Value.int IntKind.i64 (0),Value.int IntKind.i64 (0),Value.int IntKind.i64 (0),Value.string { data:={ toList:=[] } },Value.int IntKind.i64 (0),Value.int IntKind.i64 (0),Value.int IntKind.i64 (0),Value.string { data:={ toList:=[] } },Value.int IntKind.i64 (0),Value.int IntKind.i64 (0),Value.int IntKind.i64 (0),Value.string { data:={ toList:=[] } },Value.int IntKind.i64 (0),Value.int IntKind.i64 (0),Value.int IntKind.i64 (0),Value.string { data:={ toList:=[] } },Value.int IntKind.i64 (0),Value.int IntKind.i64 (0),Value.int IntKind.i64 (0),Value.string { data:={ toList:=[] } },Value.int IntKind.i64 (0),Value.int IntKind.i64 (0),Value.int IntKind.i64 (0),Value.string { data:={ toList:=[] } },Value.int IntKind.i64 (0),Value.int IntKind.i64 (0),Value.int IntKind.i64 (0),Value.string { data:={ toList:=[] } },Value.int IntKind.i64 (0),Value.int IntKind.i64 (0),Value.int IntKind.i64 (0),Value.string { data:={ toList:=[] } },Value.int IntKind.i64 (0),Value.int IntKind.i64 (0),Value.int IntKind.i64 (0),Value.string { data:={ toList:=[] } },Value.int IntKind.i64 (0),Value.int IntKind.i64 (0),Value.int IntKind.i64 (0)],kind:=TK.array 29 185 }:=by kernel_rfl
@[simp] theorem aIL:bX Tryz.prog 253=some { size:=1,bytes:=8,zero:=some [Value.int IntKind.u64 (0)],kind:=TK.int IntKind.u64 }:=by kernel_rfl
structure V where
 k:Int
 n:Int
 t:List UInt8
def V.a (v:V):AV:=.agg [.d (.int .i64 v.k),.d (.int .i64 v.n),.d (.str v.t)]
def V.c (v:V):List D:=[.int .i64 v.k,.int .i64 v.n,.str v.t]
def aD (l:List Int):List (List D):=l.map fun n=>[.int .i64 n]
def V.same (v u:V):Bool:=v.k==u.k&&(v.n==u.n&&v.t==u.t)
def eT (a b:Int):Int:=if a<b then -1 else if b<a then 1 else 0
def pB (a b:List UInt8):Int:=if Op.bytesLess a b=true then -1 else if a=b then 0 else 1
def yI:List Int→Int
 | []=>0
 | x::xs=>if x ≠ 0 then x else yI xs
def V.cmp (v u:V):Int:=yI [eT v.k u.k,eT v.n u.n,pB v.t u.t]
theorem aAb {l:List Int} {i:Nat} {n:Int} (h:l[i]?=some n):yI (l.drop i)=if n ≠ 0 then n else yI (l.drop (i+1)):=by
 obtain ⟨hi,rfl⟩:=List.getElem?_eq_some_iff.1 h
 rw [List.drop_eq_getElem_cons hi,yI]
theorem HU (n:Int):Cf En 220 [.d (.int .i64 n)] [] (.d (.bool false)) []:=by
 refine cI aW (fn:=Tryz.f220) rfl ?_
 simp
 exact ⟨.of (by kernel_rfl),.of (by kernel_rfl)⟩
theorem zC (n:Int):Cf En 274 [.d (.int .i64 n)] [] (.d (.bool false)) []:=by
 refine cI aW (fn:=Tryz.f274) rfl ?_
 simp
 exact ⟨.of (by kernel_rfl),.of (by kernel_rfl)⟩
theorem wP (n:List UInt8):Cf En 275 [.d (.str n)] [] (.d (.bool false)) []:=by
 refine cI aW (fn:=Tryz.f275) rfl ?_
 simp
 exact ⟨.of (by kernel_rfl),.of (by kernel_rfl)⟩
theorem LA (a b:Int):Cf En 229 [.d (.int .i64 a),.d (.int .i64 b)] [] (.d (.int .i64 (eT a b))) []:=by
 refine cI aW (fn:=Tryz.f229) rfl ?_
 simp
 refine ⟨.of (by kernel_rfl),aA (HU a) (by simp) ?_⟩
 simp
 refine ⟨.of (by kernel_rfl),aA (HU b) (by simp) ?_⟩
 simp
 repeat' (first | intro _ | refine And.intro ?_ ?_)
 all_goals first | exact .of (by kernel_rfl) | skip
 all_goals (unfold eT; grind)
theorem aAc (a b:Int):Cf En 263 [.d (.int .i64 a),.d (.int .i64 b)] [] (.d (.int .i64 (eT a b))) []:=by
 refine cI aW (fn:=Tryz.f263) rfl ?_
 simp
 refine ⟨.of (by kernel_rfl),aA (zC a) (by simp) ?_⟩
 simp
 refine ⟨.of (by kernel_rfl),aA (zC b) (by simp) ?_⟩
 simp
 repeat' (first | intro _ | refine And.intro ?_ ?_)
 all_goals first | exact .of (by kernel_rfl) | skip
 all_goals (unfold eT; grind)
theorem TW (a b:List UInt8):Cf En 264 [.d (.str a),.d (.str b)] [] (.d (.int .i64 (pB a b))) []:=by
 refine cI aW (fn:=Tryz.f264) rfl ?_
 simp
 refine ⟨.of (by kernel_rfl),aA (wP a) (by simp) ?_⟩
 simp
 refine ⟨.of (by kernel_rfl),aA (wP b) (by simp) ?_⟩
 simp
 repeat' (first | intro _ | refine And.intro ?_ ?_)
 all_goals first | exact .of (by kernel_rfl) | skip
 all_goals (unfold pB; grind)
theorem aDd (l:List Int) (hl:l.length≤1000000):Cf En 228 [.d (.sl (l.map fun n=>[.int .i64 n]))] [] (.d (.int .i64 (yI l))) []:=by
 refine cI aW (fn:=Tryz.f228) rfl ?_
 simp
 refine ⟨.of (by kernel_rfl),.of (by kernel_rfl),.of (by kernel_rfl),?_⟩
 refine aL aW (fun i:Nat=>{ s:=cE [(3,.d (.int .i64 0)),(6,.d (.sl (l.map fun n=>[.int .i64 n]))),(7,.d (.int .i64 l.length)),(8,.d (.int .i64 i))],b:=cC [] }) (fun i:Nat=>i≤l.length∧yI (l.drop i)=yI l) (fun i=>l.length - i) 0 (by simp) (aI _ [] .nil (by simp)) ?_
 rintro i ⟨hi,ho⟩
 simp
 refine ⟨.of (by kernel_rfl),fun hlt=>?_,fun hle=>?_⟩
 ·have hg:l[i]?=some l[i]:=gE hlt
  have hd:=aAb hg
  simp [hg]
  refine ⟨.of (by kernel_rfl),.of (by kernel_rfl),fun h=>?_,fun h=>?_⟩
  ·exact ⟨.of (by kernel_rfl),by rw [← ho,hd]; simp [h]⟩
  ·refine ⟨.of (by kernel_rfl),i+1,⟨hlt,?_⟩,?_,?_⟩
   ·rw [← ho,hd]; simp [h]
   ·refine aI _ [] .nil ?_
    simp
    exact bL (by omega) (by omega)
   ·simp; omega
 ·refine ⟨.of (by kernel_rfl),?_⟩
  have:i=l.length:=by omega
  subst this
  simpa [yI] using ho
theorem HV (v u:V):Cf En 230 [v.a,u.a] [] (.d (.int .i64 (v.cmp u))) []:=by
 refine cI aW (fn:=Tryz.f230) rfl ?_
 simp [V.a]
 refine ⟨.of (by kernel_rfl),aA (LA v.k u.k) (by simp) ?_⟩
 simp
 refine aP (aAc v.n u.n) ?_
 simp
 refine aP (TW v.t u.t) ?_
 simp
 refine aA (aDd [eT v.k u.k,eT v.n u.n,pB v.t u.t] (by simp)) (by simp) ?_
 simp
 exact ⟨.of (by kernel_rfl),rfl⟩
theorem aDe (v u:V):Cf En 194 [v.a,u.a] [] (.d (.bool (v.same u))) []:=by
 refine cI aW (fn:=Tryz.f194) rfl ?_
 simp [V.a]
 exact ⟨.of (by kernel_rfl),.of (by kernel_rfl),by simp [V.same]⟩
theorem sX (v u:V):Cf En 50 [v.a,u.a] [] (.d (.int .i64 (v.cmp u))) []:=by
 refine cI aW (fn:=Tryz.f50) rfl ?_
 simp [V.a]
 repeat' (first | intro _ | refine And.intro ?_ ?_)
 all_goals first | exact .of (by kernel_rfl) | skip
 all_goals (simp only [V.cmp,yI,eT,pB]; grind)
theorem TX (v u:V):Cf En 109 [v.a,u.a] [] (.d (.bool (v.cmp u==0))) []:=by
 refine cI aW (fn:=Tryz.f109) rfl ?_
 simp [V.a]
 refine ⟨.of (by kernel_rfl),aA (sX v u) (by simp [V.a]) ?_⟩
 simp
 exact .of (by kernel_rfl)
theorem GI (a:Int):eT a a=0:=by unfold eT; simp
theorem oK:∀ a:List UInt8,Op.bytesLess a a=false
 | []=>rfl
 | a::l=>by simp [Op.bytesLess,oK l]
theorem GJ:∀ a b:List UInt8,Op.bytesLess a b=true→Op.bytesLess b a=false
 | [],[],h=>by simp [Op.bytesLess] at h
 | [],_::_,_=>rfl
 | _::_,[],h=>by simp [Op.bytesLess] at h
 | x::a,y::b,h=>by
   simp only [Op.bytesLess,Bool.or_eq_true,decide_eq_true_eq,Bool.and_eq_true,beq_iff_eq,Bool.or_eq_false_iff,decide_eq_false_iff_not] at *
   rcases h with h | ⟨rfl,h⟩
   ·refine ⟨fun h2=>?_,?_⟩
    ·rw [UInt8.lt_iff_toNat_lt] at h h2; omega
    ·have:(y==x)=false:=by
      rw [beq_eq_false_iff_ne]; rintro rfl; rw [UInt8.lt_iff_toNat_lt] at h; omega
     simp [this]
   ·exact ⟨by rw [UInt8.lt_iff_toNat_lt]; omega,by simp [GJ a b h]⟩
theorem ND:∀ a b:List UInt8,Op.bytesLess a b=false→Op.bytesLess b a=false→a=b
 | [],[],_,_=>rfl
 | [],_::_,h,_=>by simp [Op.bytesLess] at h
 | _::_,[],_,h=>by simp [Op.bytesLess] at h
 | x::a,y::b,h1,h2=>by
   simp only [Op.bytesLess,Bool.or_eq_false_iff,decide_eq_false_iff_not,Bool.and_eq_false_imp,beq_iff_eq] at h1 h2
   have:x=y:=by
    apply UInt8.toNat_inj.1
    have a1:=h1.1; have a2:=h2.1
    rw [UInt8.lt_iff_toNat_lt] at a1 a2
    omega
   subst this
   rw [ND a b (h1.2 rfl) (h2.2 rfl)]
theorem CJ:∀ a b c:List UInt8,Op.bytesLess a b=true→Op.bytesLess b c=true→Op.bytesLess a c=true
 | _,[],_,h,_=>by cases ‹List UInt8› <;> simp [Op.bytesLess] at h
 | _,_::_,[],_,h=>by simp [Op.bytesLess] at h
 | [],_::_,_::_,_,_=>rfl
 | x::a,y::b,z::c,h1,h2=>by
   simp only [Op.bytesLess,Bool.or_eq_true,decide_eq_true_eq,Bool.and_eq_true,beq_iff_eq] at *
   rcases h1 with h1 | ⟨rfl,h1⟩ <;> rcases h2 with h2 | ⟨rfl,h2⟩
   ·left; rw [UInt8.lt_iff_toNat_lt] at *; omega
   ·exact .inl h1
   ·exact .inl h2
   ·exact .inr ⟨rfl,CJ a b c h1 h2⟩
theorem tX (a b:Int):(a<b∧eT a b=-1∧eT b a=1)∨(a=b∧eT a b=0∧eT b a=0)∨(b<a∧eT a b=1∧eT b a=-1):=by
 unfold eT; grind
theorem pT (a b:List UInt8):(Op.bytesLess a b=true∧pB a b=-1∧pB b a=1)∨(a=b∧pB a b=0∧pB b a=0)∨(Op.bytesLess b a=true∧pB a b=1∧pB b a=-1):=by
 unfold pB
 cases h1:Op.bytesLess a b with
 | true =>
   have h2:=GJ a b h1
   have:¬ b=a:=fun e=>by subst e; rw [oK] at h1; cases h1
   simp [h2,this]
 | false =>
   cases h2:Op.bytesLess b a with
   | true =>
     have:¬ a=b:=fun e=>by subst e; rw [oK] at h2; cases h2
     simp [this]
   | false =>
     have:=ND a b h1 h2
     subst this; simp
theorem V.cmp_def (v u:V):v.cmp u=if eT v.k u.k ≠ 0 then eT v.k u.k else if eT v.n u.n ≠ 0 then eT v.n u.n else pB v.t u.t:=by
 simp only [V.cmp,yI]; grind
theorem V.cmp_self (v:V):v.cmp v=0:=by
 rw [V.cmp_def,GI,GI]
 simp [pB,oK]
theorem V.same_cmp (v u:V):v.same u=(v.cmp u==0):=by
 rw [V.cmp_def,V.same,Bool.eq_iff_iff]
 simp only [Bool.and_eq_true,beq_iff_eq]
 rcases tX v.k u.k with h | h | h
 ·have:¬ v.k=u.k:=by omega
  simp [h.2,this]
 ·rcases tX v.n u.n with h' | h' | h'
  ·have:¬ v.n=u.n:=by omega
   simp [h.2,h'.2,this]
  ·rcases pT v.t u.t with h2 | h2 | h2
   ·have:¬ v.t=u.t:=fun e=>by rw [e,oK] at h2; cases h2.1
    simp [h.2,h'.2,h2.2,this]
   ·simp only [h.2.1,h'.2.1,h2.2.1]; simp [h.1,h'.1,h2.1]
   ·have:¬ v.t=u.t:=fun e=>by rw [e,oK] at h2; cases h2.1
    simp [h.2,h'.2,h2.2,this]
  ·have:¬ v.n=u.n:=by omega
   simp [h.2,h'.2,this]
 ·have:¬ v.k=u.k:=by omega
  simp [h.2,this]
theorem CK {a b c:Int} (h1:eT a b≤0) (h2:eT b c≤0):eT a c≤0∧(eT a c=0→eT a b=0∧eT b c=0):=by
 unfold eT at *; grind
theorem SD {a b c:List UInt8} (h1:pB a b≤0) (h2:pB b c≤0):pB a c≤0:=by
 rcases pT a b with x | x | x
 ·rcases pT b c with y | y | y
  ·have:=CJ a b c x.1 y.1
   simp [pB,this]
  ·rw [← y.1]; omega
  ·omega
 ·rw [x.1]; exact h2
 ·omega
theorem V.cmp_le {v u:V}:v.cmp u≤0↔eT v.k u.k<0∨(eT v.k u.k=0∧(eT v.n u.n<0∨(eT v.n u.n=0∧pB v.t u.t≤0))):=by
 rw [V.cmp_def]
 split
 ·omega
 ·split <;> omega
theorem V.cmp_trans {a b c:V} (h1:a.cmp b≤0) (h2:b.cmp c≤0):a.cmp c≤0:=by
 rw [V.cmp_le] at *
 have k:=@CK a.k b.k c.k
 have n:=@CK a.n b.n c.n
 have s:=@SD a.t b.t c.t
 have k1:eT a.k b.k≤0:=by omega
 have k2:eT b.k c.k≤0:=by omega
 have k3:=k k1 k2
 by_cases e:eT a.k c.k=0
 ·have e2:=k3.2 e
  have n1:eT a.n b.n≤0:=by omega
  have n2:eT b.n c.n≤0:=by omega
  have n3:=n n1 n2
  by_cases f:eT a.n c.n=0
  ·have f2:=n3.2 f
   exact .inr ⟨e,.inr ⟨f,s (by omega) (by omega)⟩⟩
  ·exact .inr ⟨e,.inl (by omega)⟩
 ·exact .inl (by omega)
def nulV:V:=⟨0,0,[]⟩
def qO (n:Int):V:=if n ≠ 0∧n ≠ 1 then nulV else ⟨2,n,[]⟩
def V.tr (v:V):Int:=if v.k ≠ 2 then 2 else if v.n=1 then 1 else 0
def zI (b:Bool):V:=if b=true then ⟨2,1,[]⟩ else ⟨2,0,[]⟩
def qU (a b:V):V:=if a.k=0∨b.k=0 then nulV else zI (a.same b)
def eS (a b:V):V:=if a.k=0∨b.k=0 then nulV else zI (decide (a.cmp b<0))
def DC (a b:V):V:=if a.tr=0∨b.tr=0 then ⟨2,0,[]⟩ else if a.tr=2∨b.tr=2 then nulV else ⟨2,1,[]⟩
def LE (a b:V):V:=if a.tr=1∨b.tr=1 then ⟨2,1,[]⟩ else if a.tr=2∨b.tr=2 then nulV else ⟨2,0,[]⟩
def oO (a:V):V:=if a.tr=0 then ⟨2,1,[]⟩ else if a.tr=1 then ⟨2,0,[]⟩ else nulV
theorem V.tr_cases (v:V):v.tr=0∨v.tr=1∨v.tr=2:=by unfold V.tr; grind
theorem mI:qO 0=⟨2,0,[]⟩:=by simp [qO]
theorem nW:qO 1=⟨2,1,[]⟩:=by simp [qO]
theorem nL (v:V):Cf En 97 [v.a] [] (.d (.int .i64 v.tr)) []:=by
 refine cI aW (fn:=Tryz.f97) rfl ?_
 simp [V.a,V.tr]
 repeat' (first | intro _ | refine And.intro ?_ ?_)
 all_goals first | exact .of (by kernel_rfl) | skip
 all_goals grind
theorem lK (v:V):Cf En 102 [v.a] [] (.d (.int .i64 v.tr)) []:=by
 refine cI aW (fn:=Tryz.f102) rfl ?_
 simp [V.a,V.tr]
 repeat' (first | intro _ | refine And.intro ?_ ?_)
 all_goals first | exact .of (by kernel_rfl) | skip
 all_goals grind
theorem mJ (n:Int):Cf En 197 [.d (.int .i64 n)] [] (qO n).a []:=by
 refine cI aW (fn:=Tryz.f197) rfl ?_
 by_cases h0:n=0
 ·subst h0
  simp [V.a,qO]
  repeat' (first | exact .of (by kernel_rfl) | refine And.intro ?_ ?_)
 by_cases h1:n=1
 ·subst h1
  simp [V.a,qO]
  repeat' (first | exact .of (by kernel_rfl) | refine And.intro ?_ ?_)
 simp [V.a,qO,h0,h1,nulV]
 repeat' (first | exact .of (by kernel_rfl) | refine And.intro ?_ ?_)
 (repeat' (first|contradiction|exact .ok|apply And.intro|intro _|(refine gc (fun h=>?_) (fun h=>?_)<;>(have h':=h;(try simp at h');first|done|simp[h,h',h1]|simp[h0,h1]))))
theorem nX (n:Int):Cf En 119 [.d (.int .i64 n)] [] (qO n).a []:=by
 refine cI aW (fn:=Tryz.f119) rfl ?_
 by_cases h0:n=0
 ·subst h0
  simp [V.a,qO]
  repeat' (first | exact .of (by kernel_rfl) | refine And.intro ?_ ?_)
 by_cases h1:n=1
 ·subst h1
  simp [V.a,qO]
  repeat' (first | exact .of (by kernel_rfl) | refine And.intro ?_ ?_)
 simp [V.a,qO,h0,h1,nulV]
 repeat' (first | exact .of (by kernel_rfl) | refine And.intro ?_ ?_)
 (repeat' (first|contradiction|exact .ok|apply And.intro|intro _|(refine gc (fun h=>?_) (fun h=>?_)<;>(have h':=h;(try simp at h');first|done|simp[h,h',h1]|simp[h0,h1]))))
theorem aHK (b:Bool):Cf En 232 [.d (.bool b)] [] (zI b).a []:=by
 refine cI aW (fn:=Tryz.f232) rfl ?_
 cases b
 ·simp
  (repeat' (first|contradiction|exact .ok|apply And.intro|intro _|(refine gc (fun h=>?_) (fun h=>?_)<;>(have h':=h;(try simp at h');first|done|simp[h,h']|simp))))
  refine aP (mJ 0) ?_
  simp [mI,zI,V.a]
  all_goals exact gz
 ·simp
  (repeat' (first|contradiction|exact .ok|apply And.intro|intro _|(refine gc (fun h=>?_) (fun h=>?_)<;>(have h':=h;(try simp at h');first|done|simp[h,h']|simp))))
  refine aP (mJ 1) ?_
  simp [nW,zI,V.a]
  all_goals exact gz
theorem aBl (b:Bool):Cf En 154 [.d (.bool b)] [] (zI b).a []:=by
 refine cI aW (fn:=Tryz.f154) rfl ?_
 cases b
 ·simp
  (repeat' (first|contradiction|exact .ok|apply And.intro|intro _|(refine gc (fun h=>?_) (fun h=>?_)<;>(have h':=h;(try simp at h');first|done|simp[h,h']|simp))))
  refine aP (nX 0) ?_
  simp [mI,zI,V.a]
  all_goals exact gz
 ·simp
  (repeat' (first|contradiction|exact .ok|apply And.intro|intro _|(refine gc (fun h=>?_) (fun h=>?_)<;>(have h':=h;(try simp at h');first|done|simp[h,h']|simp))))
  refine aP (nX 1) ?_
  simp [nW,zI,V.a]
  all_goals exact gz
theorem aGd (a b:V):Cf En 190 [a.a,b.a] [] (qU a b).a []:=by
 refine cI aW (fn:=Tryz.f190) rfl ?_
 by_cases h1:a.k=0
 ·rw [show qU a b=nulV from by simp [qU,h1]]
  simp [V.a,h1,nulV]
  (repeat' (first|contradiction|exact .ok|apply And.intro|intro _|(refine gc (fun h=>?_) (fun h=>?_)<;>(have h':=h;(try simp at h');first|done|simp[h,h',h1]|simp[h1]))))
 by_cases h2:b.k=0
 ·rw [show qU a b=nulV from by simp [qU,h2]]
  simp [V.a,h2,nulV]
  (repeat' (first|contradiction|exact .ok|apply And.intro|intro _|(refine gc (fun h=>?_) (fun h=>?_)<;>(have h':=h;(try simp at h');first|done|simp[h,h']|simp[h1,h2]))))
 rw [show qU a b=zI (a.same b) from by simp [qU,h1,h2]]
 simp [V.a]
 (repeat' (first|contradiction|exact .ok|apply And.intro|intro _|(refine gc (fun h=>?_) (fun h=>?_)<;>(have h':=h;(try simp at h');first|done|simp[h,h',h2]|simp[h1,h2]))))
 refine aA (aDe a b) (by simp [V.a]) ?_
 simp
 refine aA (aHK (a.same b)) (by simp) ?_
 simp [V.a]
 all_goals exact gz
theorem aDW (a b:V):Cf En 151 [a.a,b.a] [] (qU a b).a []:=by
 refine cI aW (fn:=Tryz.f151) rfl ?_
 by_cases h1:a.k=0
 ·rw [show qU a b=nulV from by simp [qU,h1]]
  simp [V.a,h1,nulV]
  (repeat' (first|contradiction|exact .ok|apply And.intro|intro _|(refine gc (fun h=>?_) (fun h=>?_)<;>(have h':=h;(try simp at h');first|done|simp[h,h',h1]|simp[h1]))))
 by_cases h2:b.k=0
 ·rw [show qU a b=nulV from by simp [qU,h2]]
  simp [V.a,h2,nulV]
  (repeat' (first|contradiction|exact .ok|apply And.intro|intro _|(refine gc (fun h=>?_) (fun h=>?_)<;>(have h':=h;(try simp at h');first|done|simp[h,h']|simp[h1,h2]))))
 rw [show qU a b=zI (a.same b) from by simp [qU,h1,h2]]
 simp [V.a]
 (repeat' (first|contradiction|exact .ok|apply And.intro|intro _|(refine gc (fun h=>?_) (fun h=>?_)<;>(have h':=h;(try simp at h');first|done|simp[h,h',h2]|simp[h1,h2]))))
 refine aA (TX a b) (by simp [V.a]) ?_
 simp [← V.same_cmp]
 refine aA (aBl (a.same b)) (by simp) ?_
 simp [V.a]
 all_goals exact gz
theorem JX (a b:V):Cf En 192 [a.a,b.a] [] (eS a b).a []:=by
 refine cI aW (fn:=Tryz.f192) rfl ?_
 by_cases h1:a.k=0
 ·rw [show eS a b=nulV from by simp [eS,h1]]
  simp [V.a,h1,nulV]
  (repeat' (first|contradiction|exact .ok|apply And.intro|intro _|(refine gc (fun h=>?_) (fun h=>?_)<;>(have h':=h;(try simp at h');first|done|simp[h,h',h1]|simp[h1]))))
 by_cases h2:b.k=0
 ·rw [show eS a b=nulV from by simp [eS,h2]]
  simp [V.a,h2,nulV]
  (repeat' (first|contradiction|exact .ok|apply And.intro|intro _|(refine gc (fun h=>?_) (fun h=>?_)<;>(have h':=h;(try simp at h');first|done|simp[h,h']|simp[h1,h2]))))
 rw [show eS a b=zI (decide (a.cmp b<0)) from by simp [eS,h1,h2]]
 simp [V.a]
 (repeat' (first|contradiction|exact .ok|apply And.intro|intro _|(refine gc (fun h=>?_) (fun h=>?_)<;>(have h':=h;(try simp at h');first|done|simp[h,h',h2]|simp[h1,h2]))))
 refine aA (HV a b) (by simp [V.a]) ?_
 simp
 refine aA (aHK (decide (a.cmp b<0))) (by simp) ?_
 simp [V.a]
 all_goals exact gz
theorem JY (a b:V):Cf En 153 [a.a,b.a] [] (eS a b).a []:=by
 refine cI aW (fn:=Tryz.f153) rfl ?_
 by_cases h1:a.k=0
 ·rw [show eS a b=nulV from by simp [eS,h1]]
  simp [V.a,h1,nulV]
  (repeat' (first|contradiction|exact .ok|apply And.intro|intro _|(refine gc (fun h=>?_) (fun h=>?_)<;>(have h':=h;(try simp at h');first|done|simp[h,h',h1]|simp[h1]))))
 by_cases h2:b.k=0
 ·rw [show eS a b=nulV from by simp [eS,h2]]
  simp [V.a,h2,nulV]
  (repeat' (first|contradiction|exact .ok|apply And.intro|intro _|(refine gc (fun h=>?_) (fun h=>?_)<;>(have h':=h;(try simp at h');first|done|simp[h,h']|simp[h1,h2]))))
 rw [show eS a b=zI (decide (a.cmp b<0)) from by simp [eS,h1,h2]]
 simp [V.a]
 (repeat' (first|contradiction|exact .ok|apply And.intro|intro _|(refine gc (fun h=>?_) (fun h=>?_)<;>(have h':=h;(try simp at h');first|done|simp[h,h',h2]|simp[h1,h2]))))
 refine aA (sX a b) (by simp [V.a]) ?_
 simp
 refine aA (aBl (decide (a.cmp b<0))) (by simp) ?_
 simp [V.a]
 all_goals exact gz
theorem aHL (a b:V):Cf En 195 [a.a,b.a] [] (DC a b).a []:=by
 refine cI aW (fn:=Tryz.f195) rfl ?_
 simp [V.a]
 (repeat' (first|contradiction|exact .ok|apply And.intro|intro _|(refine gc (fun h=>?_) (fun h=>?_)<;>(have h':=h;(try simp at h');first|done|simp[h,h']|simp))))
 refine aA (nL a) (by simp [V.a]) ?_
 simp
 refine aA (nL b) (by simp [V.a]) ?_
 rcases a.tr_cases with ha | ha | ha <;> rcases b.tr_cases with hb | hb | hb <;> simp [ha,hb] <;> (repeat' (first | contradiction | exact .of (by kernel_rfl) | refine And.intro ?_ ?_ | intro _ | (refine aK (fun h=>?_) (fun h=>?_) <;> (have h':=h; (try simp at h'); first | done | simp [h,h',ha,hb] | simp [ha,hb]))))
 all_goals first
  | (simp [DC,ha,hb,nulV]; done)
  | (refine aA (mJ 0) ?_ ?_; focus (simp; done)
     simp [mI,V.a]; (repeat' (first | contradiction | exact .of (by kernel_rfl) | refine And.intro ?_ ?_ | intro _ | (refine aK (fun h=>?_) (fun h=>?_) <;> (have h':=h; (try simp at h'); first | done | simp [h,h'] | simp)))); all_goals simp [DC,ha,hb]; done)
  | (refine aA (mJ 1) ?_ ?_; focus (simp; done)
     simp [nW,V.a]; (repeat' (first | contradiction | exact .of (by kernel_rfl) | refine And.intro ?_ ?_ | intro _ | (refine aK (fun h=>?_) (fun h=>?_) <;> (have h':=h; (try simp at h'); first | done | simp [h,h'] | simp)))); all_goals simp [DC,ha,hb]; done)
theorem aHM (a b:V):Cf En 196 [a.a,b.a] [] (LE a b).a []:=by
 refine cI aW (fn:=Tryz.f196) rfl ?_
 simp [V.a]
 (repeat' (first|contradiction|exact .ok|apply And.intro|intro _|(refine gc (fun h=>?_) (fun h=>?_)<;>(have h':=h;(try simp at h');first|done|simp[h,h']|simp))))
 refine aA (nL a) (by simp [V.a]) ?_
 simp
 refine aA (nL b) (by simp [V.a]) ?_
 rcases a.tr_cases with ha | ha | ha <;> rcases b.tr_cases with hb | hb | hb <;> simp [ha,hb] <;> (repeat' (first | contradiction | exact .of (by kernel_rfl) | refine And.intro ?_ ?_ | intro _ | (refine aK (fun h=>?_) (fun h=>?_) <;> (have h':=h; (try simp at h'); first | done | simp [h,h',ha,hb] | simp [ha,hb]))))
 all_goals first
  | (simp [LE,ha,hb,nulV]; done)
  | (refine aA (mJ 0) ?_ ?_; focus (simp; done)
     simp [mI,V.a]; (repeat' (first | contradiction | exact .of (by kernel_rfl) | refine And.intro ?_ ?_ | intro _ | (refine aK (fun h=>?_) (fun h=>?_) <;> (have h':=h; (try simp at h'); first | done | simp [h,h'] | simp)))); all_goals simp [LE,ha,hb]; done)
  | (refine aA (mJ 1) ?_ ?_; focus (simp; done)
     simp [nW,V.a]; (repeat' (first | contradiction | exact .of (by kernel_rfl) | refine And.intro ?_ ?_ | intro _ | (refine aK (fun h=>?_) (fun h=>?_) <;> (have h':=h; (try simp at h'); first | done | simp [h,h'] | simp)))); all_goals simp [LE,ha,hb]; done)
theorem VE (a:V):Cf En 191 [a.a] [] (oO a).a []:=by
 refine cI aW (fn:=Tryz.f191) rfl ?_
 simp [V.a]
 (repeat' (first|contradiction|exact .ok|apply And.intro|intro _|(refine gc (fun h=>?_) (fun h=>?_)<;>(have h':=h;(try simp at h');first|done|simp[h,h']|simp))))
 refine aA (nL a) (by simp [V.a]) ?_
 rcases a.tr_cases with ha | ha | ha <;> simp [ha,IntKind.wrap_i64] <;> (repeat' (first | contradiction | exact .of (by kernel_rfl) | refine And.intro ?_ ?_ | intro _ | (refine aK (fun h=>?_) (fun h=>?_) <;> (have h':=h; (try simp at h'); first | done | simp [h,h',ha] | simp [ha]))))
 all_goals first
  | (simp [oO,ha,nulV]; done)
  | (refine aA (mJ 0) ?_ ?_; focus (simp; done)
     simp [mI,V.a]; (repeat' (first | contradiction | exact .of (by kernel_rfl) | refine And.intro ?_ ?_ | intro _ | (refine aK (fun h=>?_) (fun h=>?_) <;> (have h':=h; (try simp at h'); first | done | simp [h,h'] | simp)))); all_goals simp [oO,ha]; done)
  | (refine aA (mJ 1) ?_ ?_; focus (simp; done)
     simp [nW,V.a]; (repeat' (first | contradiction | exact .of (by kernel_rfl) | refine And.intro ?_ ?_ | intro _ | (refine aK (fun h=>?_) (fun h=>?_) <;> (have h':=h; (try simp at h'); first | done | simp [h,h'] | simp)))); all_goals simp [oO,ha]; done)
theorem aHN (a b:V):Cf En 155 [a.a,b.a] [] (DC a b).a []:=by
 refine cI aW (fn:=Tryz.f155) rfl ?_
 simp [V.a]
 (repeat' (first|contradiction|exact .ok|apply And.intro|intro _|(refine gc (fun h=>?_) (fun h=>?_)<;>(have h':=h;(try simp at h');first|done|simp[h,h']|simp))))
 refine aA (lK a) (by simp [V.a]) ?_
 simp
 refine aA (lK b) (by simp [V.a]) ?_
 rcases a.tr_cases with ha | ha | ha <;> rcases b.tr_cases with hb | hb | hb <;> simp [ha,hb] <;> (repeat' (first | contradiction | exact .of (by kernel_rfl) | refine And.intro ?_ ?_ | intro _ | (refine aK (fun h=>?_) (fun h=>?_) <;> (have h':=h; (try simp at h'); first | done | simp [h,h',ha,hb] | simp [ha,hb]))))
 all_goals first
  | (simp [DC,ha,hb,nulV]; done)
  | (refine aA (nX 0) ?_ ?_; focus (simp; done)
     simp [mI,V.a]; (repeat' (first | contradiction | exact .of (by kernel_rfl) | refine And.intro ?_ ?_ | intro _ | (refine aK (fun h=>?_) (fun h=>?_) <;> (have h':=h; (try simp at h'); first | done | simp [h,h'] | simp)))); all_goals simp [DC,ha,hb]; done)
  | (refine aA (nX 1) ?_ ?_; focus (simp; done)
     simp [nW,V.a]; (repeat' (first | contradiction | exact .of (by kernel_rfl) | refine And.intro ?_ ?_ | intro _ | (refine aK (fun h=>?_) (fun h=>?_) <;> (have h':=h; (try simp at h'); first | done | simp [h,h'] | simp)))); all_goals simp [DC,ha,hb]; done)
theorem aHO (a b:V):Cf En 156 [a.a,b.a] [] (LE a b).a []:=by
 refine cI aW (fn:=Tryz.f156) rfl ?_
 simp [V.a]
 (repeat' (first|contradiction|exact .ok|apply And.intro|intro _|(refine gc (fun h=>?_) (fun h=>?_)<;>(have h':=h;(try simp at h');first|done|simp[h,h']|simp))))
 refine aA (lK a) (by simp [V.a]) ?_
 simp
 refine aA (lK b) (by simp [V.a]) ?_
 rcases a.tr_cases with ha | ha | ha <;> rcases b.tr_cases with hb | hb | hb <;> simp [ha,hb] <;> (repeat' (first | contradiction | exact .of (by kernel_rfl) | refine And.intro ?_ ?_ | intro _ | (refine aK (fun h=>?_) (fun h=>?_) <;> (have h':=h; (try simp at h'); first | done | simp [h,h',ha,hb] | simp [ha,hb]))))
 all_goals first
  | (simp [LE,ha,hb,nulV]; done)
  | (refine aA (nX 0) ?_ ?_; focus (simp; done)
     simp [mI,V.a]; (repeat' (first | contradiction | exact .of (by kernel_rfl) | refine And.intro ?_ ?_ | intro _ | (refine aK (fun h=>?_) (fun h=>?_) <;> (have h':=h; (try simp at h'); first | done | simp [h,h'] | simp)))); all_goals simp [LE,ha,hb]; done)
  | (refine aA (nX 1) ?_ ?_; focus (simp; done)
     simp [nW,V.a]; (repeat' (first | contradiction | exact .of (by kernel_rfl) | refine And.intro ?_ ?_ | intro _ | (refine aK (fun h=>?_) (fun h=>?_) <;> (have h':=h; (try simp at h'); first | done | simp [h,h'] | simp)))); all_goals simp [LE,ha,hb]; done)
theorem VF (a:V):Cf En 152 [a.a] [] (oO a).a []:=by
 refine cI aW (fn:=Tryz.f152) rfl ?_
 simp [V.a]
 (repeat' (first|contradiction|exact .ok|apply And.intro|intro _|(refine gc (fun h=>?_) (fun h=>?_)<;>(have h':=h;(try simp at h');first|done|simp[h,h']|simp))))
 refine aA (lK a) (by simp [V.a]) ?_
 rcases a.tr_cases with ha | ha | ha <;> simp [ha] <;> (repeat' (first | contradiction | exact .of (by kernel_rfl) | refine And.intro ?_ ?_ | intro _ | (refine aK (fun h=>?_) (fun h=>?_) <;> (have h':=h; (try simp at h'); first | done | simp [h,h',ha] | simp [ha]))))
 all_goals first
  | (simp [oO,ha,nulV]; done)
  | (refine aA (nX 0) ?_ ?_; focus (simp; done)
     simp [mI,V.a]; (repeat' (first | contradiction | exact .of (by kernel_rfl) | refine And.intro ?_ ?_ | intro _ | (refine aK (fun h=>?_) (fun h=>?_) <;> (have h':=h; (try simp at h'); first | done | simp [h,h'] | simp)))); all_goals simp [oO,ha]; done)
  | (refine aA (nX 1) ?_ ?_; focus (simp; done)
     simp [nW,V.a]; (repeat' (first | contradiction | exact .of (by kernel_rfl) | refine And.intro ?_ ?_ | intro _ | (refine aK (fun h=>?_) (fun h=>?_) <;> (have h':=h; (try simp at h'); first | done | simp [h,h'] | simp)))); all_goals simp [oO,ha]; done)
def FJ (c:Nat):Bool:=decide (c<32)||(decide (126<c)||c==39)
def sI (b:UInt8):Bool:=FJ b.toNat
def oZ (s:List UInt8):Int:=match s.findIdx? sI with
 | some i=>i
 | none=>-1
def oC (s:List UInt8):Bool:=decide (s.length≤24)&&!s.any sI
theorem PT (s:List UInt8) (i:Nat) (h:i<s.length):(ByteArray.get! ⟨s.toArray⟩ i)=s[i]:=by
 simp [ByteArray.get!,h]
theorem WL {s:List UInt8} {i:Nat} (h:i<s.length) (hb:s[i].toNat<128):Utf8.decode ⟨s.toArray⟩ i=(s[i].toNat,1):=by
 unfold Utf8.decode
 simp only [Nat.add_zero,PT s i h,hb,if_true]
theorem aCT {s:List UInt8} {i:Nat} (h:i<s.length) (hb:128≤s[i].toNat):128≤(Utf8.decode ⟨s.toArray⟩ i).1:=by
 unfold Utf8.decode
 simp only [Nat.add_zero,PT s i h,show ¬ s[i].toNat<128 from by omega,if_false]
 repeat' split
 all_goals first | (simp [Utf8.runeError]; done) | skip
 all_goals simp_all
 all_goals omega
theorem aFg {s:List UInt8} {i:Nat} (h:i<s.length):FJ (Utf8.decode ⟨s.toArray⟩ i).1=sI s[i]:=by
 unfold sI
 by_cases hb:s[i].toNat<128
 ·rw [WL h hb]
 ·have:=aCT h (by omega)
  have h1:FJ (Utf8.decode ⟨s.toArray⟩ i).1=true:=by unfold FJ; simp; omega
  have h2:FJ s[i].toNat=true:=by unfold FJ; simp; omega
  rw [h1,h2]
theorem aGT {s:List UInt8} {i:Nat} (h:i<s.length) (hb:sI s[i]=false):(Utf8.decode ⟨s.toArray⟩ i).2=1:=by
 have:s[i].toNat<128:=by unfold sI FJ at hb; simp at hb; omega
 rw [WL h this]
theorem aCU (c:Nat):Cf En 219 [.d (.int .i32 c)] [] (.d (.bool (FJ c))) []:=by
 refine cI aW (fn:=Tryz.f219) rfl ?_
 unfold FJ
 by_cases h1:c<32
 ·have h1':(c:Int)<32:=by omega
  simp [h1,h1']
  exact ⟨.of (by kernel_rfl),.of (by kernel_rfl)⟩
 ·have h1':¬ (c:Int)<32:=by omega
  by_cases h2:126<c
  ·have h2':(126:Int)<c:=by omega
   simp [h1,h1',h2,h2']
   exact ⟨.of (by kernel_rfl),.of (by kernel_rfl)⟩
  ·have h2':¬ (126:Int)<c:=by omega
   simp [h1,h1',h2,h2']
   exact ⟨.of (by kernel_rfl),.of (by kernel_rfl),by rw [Bool.eq_iff_iff]; simp; omega⟩
theorem TV (s:List UInt8) (hl:s.length≤1000000):Cf En 243 [.d (.str s),.clo 219 [],.d (.bool true)] [] (.d (.int .i64 (oZ s))) []:=by
 refine cI aW (fn:=Tryz.f243) rfl ?_
 simp
 refine ⟨.of (by kernel_rfl),.of (by kernel_rfl),?_⟩
 refine aL aW (fun i:Nat=>{ s:=cE [(0,.d (.str s)),(1,.clo 219 []),(2,.d (.bool true)),(10,.ptr 10 0 0)],b:=cC [(10,10,.iter s i)] }) (fun i:Nat=>i≤s.length∧∀ j (h:j<s.length),j<i→sI s[j]=false) (fun i=>s.length - i) 0 (by simp) (aI _ _ ⟨by simp,by simp,by simp [aB,Blk.live],by simp⟩ (by simp [aB])) ?_
 rintro i ⟨hi,ho⟩
 by_cases hlt:i<s.length
 ·simp [hlt]
  refine ⟨.of (by kernel_rfl),.of (by kernel_rfl),aA (aCU (Utf8.decode ⟨s.toArray⟩ i).1) (by simp) ?_⟩
  simp
  have hb:=aFg hlt
  refine ⟨.of (by kernel_rfl),fun h=>⟨.of (by kernel_rfl),?_⟩,fun h=>⟨i+1,⟨hlt,?_⟩,?_,?_⟩⟩
  ·rw [hb] at h
   unfold oZ
   have:s.findIdx? sI=some i:=by
    rw [List.findIdx?_eq_some_iff_getElem]
    exact ⟨hlt,h,fun j hj=>by simp [ho j (by omega) hj]⟩
   rw [this]
  ·intro j hj hji
   rcases Nat.lt_or_ge j i with c | c
   ·exact ho j hj c
   ·have:j=i:=by omega
    subst this
    rw [← hb]; exact h
  ·refine sM _ [(10,10,.iter s (i+1))] (?_) (by simp [aB])
   rw [hb] at h
   simp [aB,Blk.live,aGT hlt h]
  ·simp; omega
 ·simp [hlt]
  refine ⟨.of (by kernel_rfl),.of (by kernel_rfl),?_⟩
  unfold oZ
  have:s.findIdx? sI=none:=by
   rw [List.findIdx?_eq_none_iff]
   intro b hb
   obtain ⟨j,hj,rfl⟩:=List.getElem_of_mem hb
   exact ho j hj (by omega)
  rw [this]
theorem PU (s:List UInt8) (hl:s.length≤1000000):Cf En 218 [.d (.str s),.clo 219 []] [] (.d (.int .i64 (oZ s))) []:=by
 refine cI aW (fn:=Tryz.f218) rfl ?_
 simp
 refine ⟨.of (by kernel_rfl),aA (TV s hl) (by simp) ?_⟩
 simp
 exact .of (by kernel_rfl)
theorem KV (s:List UInt8):decide (oZ s<0)=!s.any sI:=by
 unfold oZ
 cases h:s.findIdx? sI with
 | none =>
   rw [List.findIdx?_eq_none_iff] at h
   have:s.any sI=false:=by rw [List.any_eq_false]; intro x hx; simp [h x hx]
   simp [this]
 | some i =>
   rw [List.findIdx?_eq_some_iff_getElem] at h
   obtain ⟨hi,h,_⟩:=h
   have:s.any sI=true:=List.any_eq_true.2 ⟨_,List.getElem_mem hi,h⟩
   simp [this]
theorem aGU (s:List UInt8):Cf En 168 [.d (.str s)] [] (.d (.bool (oC s))) []:=by
 refine cI aW (fn:=Tryz.f168) rfl ?_
 have hn:=KV s
 unfold oC
 by_cases h:s.length≤24
 ·have h':(s.length:Int)≤24:=by omega
  simp [h']
  refine ⟨.of (by kernel_rfl),aA (PU s (by omega)) (by simp) ?_⟩
  simp
  exact ⟨.of (by kernel_rfl),by rw [hn]; simp [h]⟩
 ·have h':¬ (s.length:Int)≤24:=by omega
  simp [h,h']
  exact ⟨.of (by kernel_rfl),.of (by kernel_rfl)⟩
def V.valid (v:V):Bool :=
 if v.k=0 then v.n==0&&v.t==[]
 else if v.k=1 then decide (-1000000000000≤v.n)&&(decide (v.n≤1000000000000)&&v.t==[])
 else if v.k=2 then (v.n==0||v.n==1)&&v.t==[]
 else if v.k=3 then v.n==0&&oC v.t
 else false
theorem jP (v:V):Cf En 116 [v.a] [] (.d (.bool v.valid)) []:=by
 refine cI aW (fn:=Tryz.f116) rfl ?_
 obtain ⟨k,n,t⟩:=v
 unfold V.valid V.a
 simp
 repeat' (first | exact .of (by kernel_rfl) | refine And.intro ?_ ?_ | intro _)
 all_goals try (refine aK (fun h=>?_) (fun h=>?_) <;> (have h':=h; (try simp at h'); simp [h,h']))
 repeat' (first | exact .of (by kernel_rfl) | refine And.intro ?_ ?_ | intro _)
 all_goals try (refine aK (fun h=>?_) (fun h=>?_) <;> (have h':=h; (try simp at h'); simp [h,h']))
 repeat' (first | exact .of (by kernel_rfl) | refine And.intro ?_ ?_ | intro _)
 all_goals try (refine aK (fun h=>?_) (fun h=>?_) <;> (have h':=h; (try simp at h'); simp [h,h']))
 repeat' (first | exact .of (by kernel_rfl) | refine And.intro ?_ ?_ | intro _)
 all_goals try (refine aP (aGU t) ?_; simp)
 repeat' (first | exact .of (by kernel_rfl) | refine And.intro ?_ ?_ | intro _)
 all_goals try (simp_all; done)
theorem aCm (b:UInt8):sI b=(decide ((b.toNat:Int)<32)||(decide (126<(b.toNat:Int))||decide ((b.toNat:Int)=39))):=by
 unfold sI FJ
 rw [Bool.eq_iff_iff]
 simp
 omega
theorem sV (v:V):Cf En 118 [v.a] [] (.d (.bool v.valid)) []:=by
 refine cI aW (fn:=Tryz.f118) rfl ?_
 obtain ⟨k,n,t⟩:=v
 unfold V.valid V.a
 simp
 repeat' (first | exact .of (by kernel_rfl) | refine And.intro ?_ ?_ | intro _)
 all_goals try (refine aK (fun h=>?_) (fun h=>?_) <;> (have h':=h; (try simp at h'); simp [h,h']))
 repeat' (first | exact .of (by kernel_rfl) | refine And.intro ?_ ?_ | intro _)
 all_goals try (refine aK (fun h=>?_) (fun h=>?_) <;> (have h':=h; (try simp at h'); simp [h,h']))
 repeat' (first | exact .of (by kernel_rfl) | refine And.intro ?_ ?_ | intro _)
 all_goals try (refine aK (fun h=>?_) (fun h=>?_) <;> (have h':=h; (try simp at h'); simp [h,h']))
 repeat' (first | exact .of (by kernel_rfl) | refine And.intro ?_ ?_ | intro _)
 all_goals try (simp_all; done)
 ·simp_all [oC]; omega
 ·have hl:t.length≤24:=by omega
  refine aL aW (fun i:Nat=>{ s:=cE [(1,.ptr 1 0 0),(3,.d (.int .i64 i))],b:=cC [(1,1,.var [.d (.int .i64 k),.d (.int .i64 0),.d (.str t)])] }) (fun i:Nat=>i≤t.length∧∀ j (h:j<t.length),j<i→sI t[j]=false) (fun i=>t.length - i) 0 (by simp) (aI _ _ ⟨by simp,by simp,by simp [aB,Blk.live],by simp⟩ (by simp [aB])) ?_
  rintro i ⟨hi,ho⟩
  by_cases hlt:i<t.length
  ·have hg:t[i]?=some t[i]:=gE hlt
   have hbd:=aCm t[i]
   simp [hlt]
   have hbad:sI t[i]=true→oC t=false:=fun h=>by
    unfold oC
    rw [List.any_eq_true.2 ⟨_,List.getElem_mem hlt,h⟩]
    simp
   refine ⟨.of (by kernel_rfl),?_⟩
   refine aK (fun h=>?_) (fun h=>?_) <;> (have h':=h; (try simp at h'); simp [h,h',hg])
   ·refine aK (fun h=>?_) (fun h=>?_) <;> (have h':=h; (try simp at h'); simp [h,h',hg])
    ·refine ⟨.of (by kernel_rfl),fun h3=>⟨.of (by kernel_rfl),?_⟩,fun h3=>⟨.of (by kernel_rfl),i+1,⟨hlt,?_⟩,?_,?_⟩⟩
     ·simp_all
     ·intro j hj hji
      rcases Nat.lt_or_ge j i with c | c
      ·exact ho j hj c
      ·have:j=i:=by omega
       subst this
       rw [hbd]; simp; omega
     ·refine sM _ [(1,1,_)] (by simp [aB,Blk.live]) ?_
      simp [aB]
      exact bL (by omega) (by omega)
     ·simp; omega
    ·refine ⟨.of (by kernel_rfl),.of (by kernel_rfl),?_⟩
     simp_all
   ·refine ⟨.of (by kernel_rfl),.of (by kernel_rfl),?_⟩
    simp_all
  ·simp [hlt]
   refine ⟨.of (by kernel_rfl),.of (by kernel_rfl),?_⟩
   have:oC t=true:=by
    unfold oC
    simp [hl]
    intro x hx
    obtain ⟨j,hj,rfl⟩:=List.getElem_of_mem hx
    exact ho j hj (by omega)
   simp_all
end Go.Proofs.Tryz
namespace Go.Proofs
open Go.Shelf
def Tryz.lays144_ren:Go.Shelf.Ren:=⟨fun | 144=>207 | 143=>237 | 219=>265 | 217=>276 | 225=>277 | 224=>278 | 267=>279 | 266=>282 | 314=>283 | n=>n,fun | 9=>9 | 4=>4 | 3=>3 | 5=>5 | 46=>203 | 146=>274 | 51=>76 | n=>n,fun | 1=>2 | n=>n⟩
theorem Tryz.lays144:Go.Proofs.Lays.n144 Tryz.prog Tryz.lays144_ren:={
 mixed:=by kernel_rfl
 f143:=Tryz.func237.trans (congrArg some (by kernel_rfl))
 f144:=Tryz.func207.trans (congrArg some (by kernel_rfl))
 f217:=Tryz.func276.trans (congrArg some (by kernel_rfl))
 f219:=Tryz.func265.trans (congrArg some (by kernel_rfl))
 f224:=Tryz.func278.trans (congrArg some (by kernel_rfl))
 f225:=Tryz.func277.trans (congrArg some (by kernel_rfl))
 f266:=Tryz.func282.trans (congrArg some (by kernel_rfl))
 f267:=Tryz.func279.trans (congrArg some (by kernel_rfl))
 f314:=Tryz.func283.trans (congrArg some (by kernel_rfl))
 t3:=Tryz.underlying3
 a3:=Tryz.isAgg3
 z3:=Tryz.sizeOf3
 v3:=Tryz.zeroValue3
 t4:=Tryz.underlying4
 a4:=Tryz.isAgg4
 z4:=Tryz.sizeOf4
 v4:=Tryz.zeroValue4
 t5:=Tryz.underlying5
 a5:=Tryz.isAgg5
 z5:=Tryz.sizeOf5
 v5:=Tryz.zeroValue5
 t9:=Tryz.underlying9
 a9:=Tryz.isAgg9
 z9:=Tryz.sizeOf9
 v9:=Tryz.zeroValue9
 t46:=Tryz.underlying203
 a46:=Tryz.isAgg203
 z46:=Tryz.sizeOf203
 v46:=Tryz.zeroValue203
 t51:=Tryz.underlying76
 a51:=Tryz.isAgg76
 z51:=Tryz.sizeOf76
 v51:=Tryz.zeroValue76
 t146:=Tryz.underlying274
 a146:=Tryz.isAgg274
 z146:=Tryz.sizeOf274
 v146:=Tryz.zeroValue274
 g1:=by kernel_rfl }
open Go.RowKit Go.Lib in
theorem Tryz.strings_Contains (s sub:ByteArray) (m:Int) (w:World) (hs:s.size<4294967281) (hm:w.cell? ⟨2,0,none⟩=some (.int .i64 m)) :
  Calls Tryz.prog 207 #[.string s,.string sub] w fun e w'=>e=.returned (.bool (Lib.contains s.data.toList sub.data.toList))∧w'=w:=Any.strings_Contains Tryz.lays144 s sub m w hs hm
end Go.Proofs
