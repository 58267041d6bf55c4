import Derived.Test.YthbnleoonldffaaGreatDoorQExp
import Derived.Test.YthbnleoonldffaaGreatDoorLog
import Derived.Test.YthbnleoonldffaaGreatDoorAri
import Derived.Test.YthbnleoonldffaaGreatDoorAbB
import Derived.Lib.IndexMore
import Derived.Shelf.Strings.Search3
import Derived.Test.YthbnleoonldffaaGreatDoorProg
set_option linter.all false
namespace Go.Proofs.Tryz
open Go.Ab
def aG (l:List Int):List (List D):=l.map fun n=>[.int .i64 n]
def bO (v:V) (i:Int):Ex :=
 if v.k=1 then .mk 2 0 v.n [] 0 [] else if v.k=2 then .mk 3 0 v.n [] 0 [] else if v.k=3 then .mk 4 0 0 v.t 0 [] else .mk 1 i 0 [] 0 []
theorem aBt (v:V) (i:Int):Cf En 375 [v.a,.d (.int .i64 i)] [] (bO v i).a []:=by
 refine aD aW (fn:=Tryz.f375) (by kernel_rfl) rfl (by kernel_rfl) (by decide) (by simp) ?_
 unfold bO
 by_cases h1:v.k=1
 ·simp [V.a,h1,Ex.a,Ex.c,cA]
  repeat' (first | exact .of (by kernel_rfl) | refine And.intro ?_ ?_)
 by_cases h2:v.k=2
 ·simp [V.a,h2,Ex.a,Ex.c,cA]
  repeat' (first | exact .of (by kernel_rfl) | refine And.intro ?_ ?_)
 by_cases h3:v.k=3
 ·simp [V.a,h3,Ex.a,Ex.c,cA]
  repeat' (first | exact .of (by kernel_rfl) | refine And.intro ?_ ?_)
 ·simp [V.a,h1,h2,h3,Ex.a,Ex.c,cA]
  repeat' (first | exact .of (by kernel_rfl) | refine And.intro ?_ ?_)
theorem aBu (v:V) (i:Int):Cf En 103 [v.a,.d (.int .i64 i)] [] (bO v i).a []:=by
 refine aD aW (fn:=Tryz.f103) (by kernel_rfl) rfl (by kernel_rfl) (by decide) (by simp) ?_
 unfold bO
 by_cases h1:v.k=1
 ·simp [V.a,h1,Ex.a,Ex.c,cA]
  repeat' (first | exact .of (by kernel_rfl) | refine And.intro ?_ ?_)
 by_cases h2:v.k=2
 ·simp [V.a,h2,Ex.a,Ex.c,cA]
  repeat' (first | exact .of (by kernel_rfl) | refine And.intro ?_ ?_)
 by_cases h3:v.k=3
 ·simp [V.a,h3,Ex.a,Ex.c,cA]
  repeat' (first | exact .of (by kernel_rfl) | refine And.intro ?_ ?_)
 ·simp [V.a,h1,h2,h3,Ex.a,Ex.c,cA]
  repeat' (first | exact .of (by kernel_rfl) | refine And.intro ?_ ?_)
end Go.Proofs.Tryz
namespace Go.Proofs.Tryz
def aY {α:Type} (p:α→Bool):List α→Nat→Int
 | [],_=>-1
 | x::l,i=>if p x=true then i else aY p l (i+1)
theorem dX {α:Type} {p:α→Bool} {l:List α} {i k:Nat} (h:i<l.length):aY p (l.drop i) k=if p l[i]=true then (k:Int) else aY p (l.drop (i+1)) (k+1):=by
 rw [List.drop_eq_getElem_cons h,aY]
end Go.Proofs.Tryz
namespace Go.Proofs.Tryz
open Go.Ab
set_option maxRecDepth 100000
set_option maxHeartbeats 4000000
abbrev Opn:=List UInt8×Int×Int×Int
def ops:List Opn:=[([],0,0,0),([110,117,108,108],0,0,0),([105,110,116],0,0,1),([98,111,111,108],0,0,2),([116,101,120,116],0,0,3),([99,111,108,117,109,110],0,0,0),([97,100,100],2,1,1),([115,117,98],2,1,1),([109,117,108],2,1,1),([100,105,118],2,1,1),([109,111,100],2,1,1),([110,101,103],1,1,1),([99,111,110,99,97,116],2,2,3),([108,101,110,103,116,104],1,2,1),([101,113],2,4,2),([110,101],2,4,2),([108,116],2,4,2),([108,101],2,4,2),([103,116],2,4,2),([103,101],2,4,2),([115,97,109,101],2,4,2),([105,115,110,117,108,108],1,5,2),([97,110,100],2,3,2),([111,114],2,3,2),([110,111,116],1,3,2),([105,115,116,114,117,101],1,3,2),([99,97,115,101],3,6,0),([99,111,97,108,101,115,99,101],2,4,0),([105,110],2,4,2)]
def TY (o:Opn):List D:=[.str o.1,.int .i64 o.2.1,.int .i64 o.2.2.1,.int .i64 o.2.2.2]
def opsC:List D:=ops.flatMap TY
noncomputable def Eo:dZ:=⟨Tryz.prog,fun g=>if g=2 then some [.int .i64 0,.int .i64 0,.str []] else if g=1 then some opsC else none⟩
@[simp] theorem aHu:Eo.P=Tryz.prog:=id rfl
@[simp] theorem aFe (g:Nat):Eo.G g=if g=2 then some [.int .i64 0,.int .i64 0,.str []] else if g=1 then some opsC else none:=rfl
theorem aBC:Eo.P.follows .mixedOrders=true:=by kernel_rfl
theorem up {f:FuncId} {xs:List AV} {B:List Blk} {y:AV} {B':List Blk} (h:Cf En f xs B y B'):Cf Eo f xs B y B' :=
 Cf.more (E:=En) (E':=Eo) rfl (fun g cs e=>by
  rw [aGM] at e
  rw [aFe]
  split at e
  ·rename_i h0; rw [if_pos h0]; exact e
  ·cases e) h
theorem qE:opsC.length=116:=by decide
theorem DR:∀ (l:List Opn) (o:Nat),(l.flatMap TY).drop (o*4)=(l.drop o).flatMap TY
 | [],o=>by simp
 | x::l,0=>by simp
 | x::l,o+1=>by
   rw [List.flatMap_cons,show (o+1)*4=(TY x).length+o*4 from by simp [TY]; omega,← List.drop_drop,List.drop_left,DR l o,List.drop_succ_cons]
def zop:Opn:=([],0,0,0)
def bK (o:Int):Opn:=(ops[o.toNat]?).getD zop
theorem aBD {o:Nat} (h:o<29):∃ rest,opsC.drop (o*4)=.str (bK o).1::.int .i64 (bK o).2.1::.int .i64 (bK o).2.2.1::.int .i64 (bK o).2.2.2::rest:=by
 have hl:o<ops.length:=h
 refine ⟨(ops.drop (o+1)).flatMap TY,?_⟩
 unfold opsC
 rw [DR,List.drop_eq_getElem_cons hl,List.flatMap_cons]
 unfold bK
 rw [Int.toNat_natCast,List.getElem?_eq_getElem hl]
 rfl
theorem XQ:∀ o:Nat,o<29→1≤o→(bK o).1 ≠ []:=by decide
def bL (o:Int):Bool:=decide (1≤o)&&decide (o≤28)
def rV (o:Int):Opn:=if bL o=true then bK o else zop
def JY (o:Opn):AV:=.agg [.d (.str o.1),.d (.int .i64 o.2.1),.d (.int .i64 o.2.2.1),.d (.int .i64 o.2.2.2)]
set_option maxRecDepth 100000 in
theorem aDB (o:Int):Cf Eo 270 [.d (.int .i64 o)] [] (.tup [JY (rV o),.d (.bool (bL o))]) []:=by
 refine aD aBC (fn:=Tryz.f270) (by kernel_rfl) rfl (by kernel_rfl) (by decide) (by simp) ?_
 by_cases h1:o<0
 ·have hi:bL o=false:=by unfold bL; simp; omega
  simp [rV,hi,JY,zop,h1]
  (repeat' (first|contradiction|exact .ok|apply And.intro|intro _|(refine gc (fun h=>?_) (fun h=>?_)<;>(have h':=h;(try simp at h');first|done|simp[h,h',h1]|simp[h1]))))
 by_cases h2:29≤o
 ·have hi:bL o=false:=by unfold bL; simp; omega
  simp [rV,hi,JY,zop,h1,h2]
  (repeat' (first|contradiction|exact .ok|apply And.intro|intro _|(refine gc (fun h=>?_) (fun h=>?_)<;>(have h':=h;(try simp at h');first|done|simp[h,h',h1,h2]|simp[h1,h2]))))
  all_goals omega
 obtain ⟨n,rfl⟩:∃ n:Nat,o=n:=⟨o.toNat,by omega⟩
 have hn:n<29:=by omega
 obtain ⟨rest,hr⟩:=aBD hn
 have hb:n*4≤116:=by omega
 have hlt:(n:Int)<29:=by omega
 have hnl:¬ 29≤n:=by omega
 have h4:n*4≤opsC.length:=by rw [qE]; omega
 by_cases h0:n=0
 ·subst h0
  have h00:opsC.head?=some (.str []):=rfl
  simp [rV,bL,JY,zop,qE,h00]
  (repeat' (first|contradiction|exact .ok|apply And.intro|intro _|(refine gc (fun h=>?_) (fun h=>?_)<;>(have h':=h;(try simp at h');first|done|simp[h,h',h00]|simp[h00]))))
 ·have hi:bL n=true:=by unfold bL; simp; omega
  have hw:=XQ n hn (by omega)
  simp [rV,hi,JY,qE,h1,hlt,hb,hr,hnl]
  (repeat' (first|contradiction|exact .ok|apply And.intro|intro _|(refine gc (fun h=>?_) (fun h=>?_)<;>(have h':=h;(try simp at h');first|done|simp[h,h',hr,h1,hlt,hb,qE,hnl,hw]|simp[hr,h1,hlt,hb,qE,hnl,hw]))))
  all_goals simp [rV,hi]
def bI (o:Int) (n:Nat):Bool:=bL o&&((n:Int)==(bK o).2.1||(o==28&&decide ((n:Int)>(bK o).2.1)))
set_option maxRecDepth 100000 in
theorem QV (o c n:Int) (t:List UInt8) (g:Int) (ks:List Ex):Cf Eo 199 [(Ex.mk o c n t g ks).a] [] (.tup [JY (rV o),.d (.bool (bL o)),.d (.bool (bI o ks.length))]) []:=by
 refine aD aBC (fn:=Tryz.f199) (by kernel_rfl) rfl (by kernel_rfl) (by decide) (by simp) ?_
 simp [Ex.a,Ex.c,aC]
 (repeat' (first|contradiction|exact .ok|apply And.intro|intro _|(refine gc (fun h=>?_) (fun h=>?_)<;>(have h':=h;(try simp at h');first|done|simp[h,h']|simp))))
 refine aA (aDB o) (by simp [V.a]) ?_
 simp [JY]
 (repeat' (first|contradiction|exact .ok|apply And.intro|intro _|(refine gc (fun h=>?_) (fun h=>?_)<;>(have h':=h;(try simp at h');first|done|simp[h,h']|simp))))
 all_goals simp_all [bI,rV]
theorem GF (b:Bool):Cf En 275 [.d (.bool b)] [] (vR b).a []:=by
 refine aD aW (fn:=Tryz.f275) (by kernel_rfl) rfl (by kernel_rfl) (by decide) (by simp) ?_
 cases b
 ·simp
  (repeat' first|contradiction|exact .ok|apply And.intro|intro _|(apply gc<;>simp+contextual))
  refine aA (lK 0) (by simp [V.a]) ?_
  simp [lJ,vR,V.a]
  all_goals exact gz
 ·simp
  (repeat' first|contradiction|exact .ok|apply And.intro|intro _|(apply gc<;>simp+contextual))
  refine aA (lK 1) (by simp [V.a]) ?_
  simp [mU,vR,V.a]
  all_goals exact gz
def gH (l:List V):V:=(l[0]?).getD nulV
def iF (l:List V):V:=(l[1]?).getD nulV
def inV (x:V) (ys:List V):V:=ys.foldl (fun o y=>HV o (pD x y)) ⟨2,0,[]⟩
def aQ (op:Int) (l:List V):V :=
 if op=6∨op=7∨op=8∨op=9∨op=10∨op=12 then jU op (gH l) (iF l)
 else if op=11 then jU 7 ⟨1,0,[]⟩ (gH l)
 else if op=13 then (if (gH l).k=3 then ⟨1,(gH l).t.length,[]⟩ else nulV)
 else if op=14 then pD (gH l) (iF l)
 else if op=15 then nM (pD (gH l) (iF l))
 else if op=16 then eL (gH l) (iF l)
 else if op=17 then nM (eL (iF l) (gH l))
 else if op=18 then eL (iF l) (gH l)
 else if op=19 then nM (eL (gH l) (iF l))
 else if op=20 then vR ((gH l).same (iF l))
 else if op=21 then vR ((gH l).k==0)
 else if op=22 then AP (gH l) (iF l)
 else if op=23 then HV (gH l) (iF l)
 else if op=24 then nM (gH l)
 else if op=25 then vR ((gH l).tr==1)
 else if op=27 then (if (gH l).k=0 then iF l else gH l)
 else if op=28 then inV (gH l) (l.drop 1)
 else nulV
theorem aGr (x y:V):Cf En 200 [.d (.int .i64 6),.d (.sl ([x,y].map V.c))] [] (aQ 6 [x,y]).a []:=by
 have e:aQ 6 [x,y]=jU 6 x y:=by simp [aQ,gH,iF]
 rw [e]
 refine aD aW (fn:=Tryz.f200) (by kernel_rfl) rfl (by kernel_rfl) (by decide) (by simp) ?_
 simp [V.c]
 (repeat' first|contradiction|exact .ok|apply And.intro|intro _|(apply gc<;>simp+contextual))
 refine aA (oL 6 x y) (by simp [V.a]) ?_
 simp [V.a]
 all_goals exact gz
theorem aGs (x y:V):Cf En 200 [.d (.int .i64 7),.d (.sl ([x,y].map V.c))] [] (aQ 7 [x,y]).a []:=by
 have e:aQ 7 [x,y]=jU 7 x y:=by simp [aQ,gH,iF]
 rw [e]
 refine aD aW (fn:=Tryz.f200) (by kernel_rfl) rfl (by kernel_rfl) (by decide) (by simp) ?_
 simp [V.c]
 (repeat' first|contradiction|exact .ok|apply And.intro|intro _|(apply gc<;>simp+contextual))
 refine aA (oL 7 x y) (by simp [V.a]) ?_
 simp [V.a]
 all_goals exact gz
theorem aGt (x y:V):Cf En 200 [.d (.int .i64 8),.d (.sl ([x,y].map V.c))] [] (aQ 8 [x,y]).a []:=by
 have e:aQ 8 [x,y]=jU 8 x y:=by simp [aQ,gH,iF]
 rw [e]
 refine aD aW (fn:=Tryz.f200) (by kernel_rfl) rfl (by kernel_rfl) (by decide) (by simp) ?_
 simp [V.c]
 (repeat' first|contradiction|exact .ok|apply And.intro|intro _|(apply gc<;>simp+contextual))
 refine aA (oL 8 x y) (by simp [V.a]) ?_
 simp [V.a]
 all_goals exact gz
theorem aGu (x y:V):Cf En 200 [.d (.int .i64 9),.d (.sl ([x,y].map V.c))] [] (aQ 9 [x,y]).a []:=by
 have e:aQ 9 [x,y]=jU 9 x y:=by simp [aQ,gH,iF]
 rw [e]
 refine aD aW (fn:=Tryz.f200) (by kernel_rfl) rfl (by kernel_rfl) (by decide) (by simp) ?_
 simp [V.c]
 (repeat' first|contradiction|exact .ok|apply And.intro|intro _|(apply gc<;>simp+contextual))
 refine aA (oL 9 x y) (by simp [V.a]) ?_
 simp [V.a]
 all_goals exact gz
theorem aEJ (x y:V):Cf En 200 [.d (.int .i64 10),.d (.sl ([x,y].map V.c))] [] (aQ 10 [x,y]).a []:=by
 have e:aQ 10 [x,y]=jU 10 x y:=by simp [aQ,gH,iF]
 rw [e]
 refine aD aW (fn:=Tryz.f200) (by kernel_rfl) rfl (by kernel_rfl) (by decide) (by simp) ?_
 simp [V.c]
 (repeat' first|contradiction|exact .ok|apply And.intro|intro _|(apply gc<;>simp+contextual))
 refine aA (oL 10 x y) (by simp [V.a]) ?_
 simp [V.a]
 all_goals exact gz
theorem aEK (x y:V):Cf En 200 [.d (.int .i64 12),.d (.sl ([x,y].map V.c))] [] (aQ 12 [x,y]).a []:=by
 have e:aQ 12 [x,y]=jU 12 x y:=by simp [aQ,gH,iF]
 rw [e]
 refine aD aW (fn:=Tryz.f200) (by kernel_rfl) rfl (by kernel_rfl) (by decide) (by simp) ?_
 simp [V.c]
 (repeat' first|contradiction|exact .ok|apply And.intro|intro _|(apply gc<;>simp+contextual))
 refine aA (oL 12 x y) (by simp [V.a]) ?_
 simp [V.a]
 all_goals exact gz
theorem aEL (x:V):Cf En 200 [.d (.int .i64 11),.d (.sl ([x].map V.c))] [] (aQ 11 [x]).a []:=by
 have e:aQ 11 [x]=jU 7 ⟨1,0,[]⟩ x:=by simp [aQ,gH,iF]
 rw [e]
 refine aD aW (fn:=Tryz.f200) (by kernel_rfl) rfl (by kernel_rfl) (by decide) (by simp) ?_
 simp [V.c]
 (repeat' first|contradiction|exact .ok|apply And.intro|intro _|(apply gc<;>simp+contextual))
 refine aA (oL 7 ⟨1,0,[]⟩ x) (by simp [V.a]) ?_
 simp [V.a]
 all_goals exact gz
theorem aEM (x y:V):Cf En 200 [.d (.int .i64 14),.d (.sl ([x,y].map V.c))] [] (aQ 14 [x,y]).a []:=by
 have e:aQ 14 [x,y]=pD x y:=by simp [aQ,gH,iF]
 rw [e]
 refine aD aW (fn:=Tryz.f200) (by kernel_rfl) rfl (by kernel_rfl) (by decide) (by simp) ?_
 simp [V.c]
 (repeat' first|contradiction|exact .ok|apply And.intro|intro _|(apply gc<;>simp+contextual))
 refine aA (aDH x y) (by simp [V.a]) ?_
 simp [V.a]
 all_goals exact gz
theorem aEN (x y:V):Cf En 200 [.d (.int .i64 15),.d (.sl ([x,y].map V.c))] [] (aQ 15 [x,y]).a []:=by
 have e:aQ 15 [x,y]=nM (pD x y):=by simp [aQ,gH,iF]
 rw [e]
 refine aD aW (fn:=Tryz.f200) (by kernel_rfl) rfl (by kernel_rfl) (by decide) (by simp) ?_
 simp [V.c]
 (repeat' first|contradiction|exact .ok|apply And.intro|intro _|(apply gc<;>simp+contextual))
 refine aA (aDH x y) (by simp [V.a]) ?_
 simp [V.a]
 (repeat' first|contradiction|exact .ok|apply And.intro|intro _|(apply gc<;>simp+contextual))
 refine aA (RF (pD x y)) (by simp [V.a]) ?_
 simp [V.a]
 all_goals exact gz
theorem aEO (x y:V):Cf En 200 [.d (.int .i64 16),.d (.sl ([x,y].map V.c))] [] (aQ 16 [x,y]).a []:=by
 have e:aQ 16 [x,y]=eL x y:=by simp [aQ,gH,iF]
 rw [e]
 refine aD aW (fn:=Tryz.f200) (by kernel_rfl) rfl (by kernel_rfl) (by decide) (by simp) ?_
 simp [V.c]
 (repeat' first|contradiction|exact .ok|apply And.intro|intro _|(apply gc<;>simp+contextual))
 refine aA (GT x y) (by simp [V.a]) ?_
 simp [V.a]
 all_goals exact gz
theorem aEP (x y:V):Cf En 200 [.d (.int .i64 17),.d (.sl ([x,y].map V.c))] [] (aQ 17 [x,y]).a []:=by
 have e:aQ 17 [x,y]=nM (eL y x):=by simp [aQ,gH,iF]
 rw [e]
 refine aD aW (fn:=Tryz.f200) (by kernel_rfl) rfl (by kernel_rfl) (by decide) (by simp) ?_
 simp [V.c]
 (repeat' first|contradiction|exact .ok|apply And.intro|intro _|(apply gc<;>simp+contextual))
 refine aA (GT y x) (by simp [V.a]) ?_
 simp [V.a]
 (repeat' first|contradiction|exact .ok|apply And.intro|intro _|(apply gc<;>simp+contextual))
 refine aA (RF (eL y x)) (by simp [V.a]) ?_
 simp [V.a]
 all_goals exact gz
theorem aEQ (x y:V):Cf En 200 [.d (.int .i64 18),.d (.sl ([x,y].map V.c))] [] (aQ 18 [x,y]).a []:=by
 have e:aQ 18 [x,y]=eL y x:=by simp [aQ,gH,iF]
 rw [e]
 refine aD aW (fn:=Tryz.f200) (by kernel_rfl) rfl (by kernel_rfl) (by decide) (by simp) ?_
 simp [V.c]
 (repeat' first|contradiction|exact .ok|apply And.intro|intro _|(apply gc<;>simp+contextual))
 refine aA (GT y x) (by simp [V.a]) ?_
 simp [V.a]
 all_goals exact gz
theorem aER (x y:V):Cf En 200 [.d (.int .i64 19),.d (.sl ([x,y].map V.c))] [] (aQ 19 [x,y]).a []:=by
 have e:aQ 19 [x,y]=nM (eL x y):=by simp [aQ,gH,iF]
 rw [e]
 refine aD aW (fn:=Tryz.f200) (by kernel_rfl) rfl (by kernel_rfl) (by decide) (by simp) ?_
 simp [V.c]
 (repeat' first|contradiction|exact .ok|apply And.intro|intro _|(apply gc<;>simp+contextual))
 refine aA (GT x y) (by simp [V.a]) ?_
 simp [V.a]
 (repeat' first|contradiction|exact .ok|apply And.intro|intro _|(apply gc<;>simp+contextual))
 refine aA (RF (eL x y)) (by simp [V.a]) ?_
 simp [V.a]
 all_goals exact gz
theorem aES (x y:V):Cf En 200 [.d (.int .i64 20),.d (.sl ([x,y].map V.c))] [] (aQ 20 [x,y]).a []:=by
 have e:aQ 20 [x,y]=vR (x.same y):=by simp [aQ,gH,iF]
 rw [e]
 refine aD aW (fn:=Tryz.f200) (by kernel_rfl) rfl (by kernel_rfl) (by decide) (by simp) ?_
 simp [V.c]
 (repeat' first|contradiction|exact .ok|apply And.intro|intro _|(apply gc<;>simp+contextual))
 refine aA (aAP x y) (by simp [V.a]) ?_
 simp [V.a]
 (repeat' first|contradiction|exact .ok|apply And.intro|intro _|(apply gc<;>simp+contextual))
 refine aA (GF (x.same y)) (by simp [V.a]) ?_
 simp [V.a]
 all_goals exact gz
theorem aET (x:V):Cf En 200 [.d (.int .i64 21),.d (.sl ([x].map V.c))] [] (aQ 21 [x]).a []:=by
 have e:aQ 21 [x]=vR (x.k==0):=by simp [aQ,gH,iF]
 rw [e]
 refine aD aW (fn:=Tryz.f200) (by kernel_rfl) rfl (by kernel_rfl) (by decide) (by simp) ?_
 simp [V.c]
 (repeat' first|contradiction|exact .ok|apply And.intro|intro _|(apply gc<;>simp+contextual))
 refine aA (GF (x.k==0)) (by simp [V.a]) ?_
 simp [V.a]
 all_goals exact gz
theorem aEU (x y:V):Cf En 200 [.d (.int .i64 22),.d (.sl ([x,y].map V.c))] [] (aQ 22 [x,y]).a []:=by
 have e:aQ 22 [x,y]=AP x y:=by simp [aQ,gH,iF]
 rw [e]
 refine aD aW (fn:=Tryz.f200) (by kernel_rfl) rfl (by kernel_rfl) (by decide) (by simp) ?_
 simp [V.c]
 (repeat' first|contradiction|exact .ok|apply And.intro|intro _|(apply gc<;>simp+contextual))
 refine aA (aFm x y) (by simp [V.a]) ?_
 simp [V.a]
 all_goals exact gz
theorem aEV (x y:V):Cf En 200 [.d (.int .i64 23),.d (.sl ([x,y].map V.c))] [] (aQ 23 [x,y]).a []:=by
 have e:aQ 23 [x,y]=HV x y:=by simp [aQ,gH,iF]
 rw [e]
 refine aD aW (fn:=Tryz.f200) (by kernel_rfl) rfl (by kernel_rfl) (by decide) (by simp) ?_
 simp [V.c]
 (repeat' first|contradiction|exact .ok|apply And.intro|intro _|(apply gc<;>simp+contextual))
 refine aA (aFn x y) (by simp [V.a]) ?_
 simp [V.a]
 all_goals exact gz
theorem aEW (x:V):Cf En 200 [.d (.int .i64 24),.d (.sl ([x].map V.c))] [] (aQ 24 [x]).a []:=by
 have e:aQ 24 [x]=nM x:=by simp [aQ,gH,iF]
 rw [e]
 refine aD aW (fn:=Tryz.f200) (by kernel_rfl) rfl (by kernel_rfl) (by decide) (by simp) ?_
 simp [V.c]
 (repeat' first|contradiction|exact .ok|apply And.intro|intro _|(apply gc<;>simp+contextual))
 refine aA (RF x) (by simp [V.a]) ?_
 simp [V.a]
 all_goals exact gz
theorem aEX (x:V):Cf En 200 [.d (.int .i64 25),.d (.sl ([x].map V.c))] [] (aQ 25 [x]).a []:=by
 have e:aQ 25 [x]=vR (x.tr==1):=by simp [aQ,gH,iF]
 rw [e]
 refine aD aW (fn:=Tryz.f200) (by kernel_rfl) rfl (by kernel_rfl) (by decide) (by simp) ?_
 simp [V.c]
 (repeat' first|contradiction|exact .ok|apply And.intro|intro _|(apply gc<;>simp+contextual))
 refine aA (mK x) (by simp [V.a]) ?_
 simp [V.a]
 (repeat' first|contradiction|exact .ok|apply And.intro|intro _|(apply gc<;>simp+contextual))
 refine aA (GF (x.tr==1)) (by simp [V.a]) ?_
 simp [V.a]
 all_goals exact gz
theorem aEY (x:V):Cf En 200 [.d (.int .i64 13),.d (.sl ([x].map V.c))] [] (aQ 13 [x]).a []:=by
 refine aD aW (fn:=Tryz.f200) (by kernel_rfl) rfl (by kernel_rfl) (by decide) (by simp) ?_
 by_cases h:x.k=3
 ·rw [show aQ 13 [x]=⟨1,x.t.length,[]⟩ from by simp [aQ,gH,h]]
  simp [V.c,V.a,h]
  (repeat' first|contradiction|exact .ok|apply And.intro|intro _|(apply gc<;>simp+contextual[h]))
 ·rw [show aQ 13 [x]=nulV from by simp [aQ,gH,h]]
  simp [V.c,V.a,h,nulV]
  (repeat' first|contradiction|exact .ok|apply And.intro|intro _|(apply gc<;>simp+contextual[h]))
theorem aEZ (x y:V):Cf En 200 [.d (.int .i64 27),.d (.sl ([x,y].map V.c))] [] (aQ 27 [x,y]).a []:=by
 refine aD aW (fn:=Tryz.f200) (by kernel_rfl) rfl (by kernel_rfl) (by decide) (by simp) ?_
 by_cases h:x.k=0
 ·rw [show aQ 27 [x,y]=y from by simp [aQ,gH,iF,h]]
  simp [V.c,V.a,h]
  (repeat' first|contradiction|exact .ok|apply And.intro|intro _|(apply gc<;>simp+contextual[h]))
 ·rw [show aQ 27 [x,y]=x from by simp [aQ,gH,iF,h]]
  simp [V.c,V.a,h]
  (repeat' first|contradiction|exact .ok|apply And.intro|intro _|(apply gc<;>simp+contextual[h]))
theorem V.clen (v:V):v.c.length=3:=rfl
theorem WY (x:V) (ys:List V) (i:Nat) (y:V) (h:ys[i]?=some y):inV x (ys.take (i+1))=HV (inV x (ys.take i)) (pD x y):=by
 unfold inV
 rw [List.take_add_one,h]
 simp
theorem aFa (x:V) (ys:List V) (hl:ys.length≤1000):Cf En 200 [.d (.int .i64 28),.d (.sl ((x::ys).map V.c))] [] (aQ 28 (x::ys)).a []:=by
 have e:aQ 28 (x::ys)=inV x ys:=by simp [aQ,gH]
 rw [e]
 refine aD aW (fn:=Tryz.f200) (by kernel_rfl) rfl (by kernel_rfl) (by decide) (by simp) ?_
 simp
 (repeat' first|contradiction|exact .ok|apply And.intro|intro _|(apply gc<;>simp+contextual))
 refine aA (lK 0) (by simp [V.a]) ?_
 have htk:List.take ys.length (List.map V.c ys)=List.map V.c ys:=List.take_of_length_le (by simp)
 have h1:(1:Int)≤(ys.length:Int)+1:=by omega
 simp only [lJ,V.a]
 simp [htk,h1,V.clen]
 (repeat' first|contradiction|exact .ok|apply And.intro|intro _|(apply gc<;>simp+contextual))
 refine aL aW (by decide) (fun i:Nat=>{ s:=cG [(1,.d (.sl ((x::ys).map V.c))),(4,.ptr 4 0 0),(5,.ptr 5 0 0),(168,.d (.sl (ys.map V.c))),(169,.d (.int .i64 ys.length)),(170,.d (.int .i64 i))],b:=cE [(4,4,.var [.d (.int .i64 0),.d (.int .i64 0),.d (.str [])]),(5,5,.var (inV x (ys.take i)).a.cells)] }) (fun i:Nat=>i≤ys.length) (fun i=>ys.length - i) 0 (by simp) (aE _ [(4,4,_),(5,5,_)] ⟨by simp,by simp,by simp [aB,Blk.live,V.a,inV],by simp⟩ (by simp [aB])) ?_
 intro i hi
 by_cases hlt:i<ys.length
 ·have hg:ys[i]?=some ys[i]:=List.getElem?_eq_getElem hlt
  have hlt':(i:Int)<ys.length:=by omega
  have ht:=WY x ys i ys[i] hg
  simp [hlt,hlt',hg,V.c,V.a]
  (repeat' first|contradiction|exact .ok|apply And.intro|intro _|(apply gc<;>simp+contextual))
  refine aA (aDH x ys[i]) (by simp [V.a]) ?_
  simp [V.a]
  refine aA (aFn (inV x (ys.take i)) (pD x ys[i])) (by simp [V.a]) ?_
  simp [V.a]
  (repeat' first|contradiction|exact .ok|apply And.intro|intro _|(apply gc<;>simp+contextual))
  refine ⟨i+1,hlt,?_,?_⟩
  ·refine aE _ [(4,4,_),(5,5,_)] ⟨by simp,by simp,by simp [aB,Blk.live,V.a,ht],by simp⟩ ?_
   simp [aB,V.c]
   exact aH (by omega) (by omega)
  ·simp; omega
 ·have hie:i=ys.length:=by omega
  subst hie
  simp [V.a,V.c]
  all_goals exact gz
theorem aGv:Cf En 200 [.d (.int .i64 1),.d (.sl (([]:List V).map V.c))] [] (aQ 1 []).a []:=by
 rw [show aQ 1 []=nulV from by simp [aQ]]
 refine aD aW (fn:=Tryz.f200) (by kernel_rfl) rfl (by kernel_rfl) (by decide) (by simp) ?_
 simp [nulV,V.a]
 all_goals exact gz
theorem WZ {l:List V} (h:l.length=1):∃ x,l=[x]:=by
 match l,h with
 | [x],_=>exact ⟨x,rfl⟩
theorem rH {l:List V} (h:l.length=2):∃ x y,l=[x,y]:=by
 match l,h with
 | [x,y],_=>exact ⟨x,y,rfl⟩
theorem TO (op:Int) (l:List V) (hc:bI op l.length=true) (hl:l.length≤1000) (n2:op ≠ 2) (n3:op ≠ 3) (n4:op ≠ 4) (n5:op ≠ 5) (n26:op ≠ 26) :
  Cf En 200 [.d (.int .i64 op),.d (.sl (l.map V.c))] [] (aQ op l).a []:=by
 have h1:bL op=true:=by
  unfold bI at hc
  simp only [Bool.and_eq_true] at hc
  exact hc.1
 have h2:1≤op∧op≤28:=by simpa [bL] using h1
 have h3:op=1∨op=6∨op=7∨op=8∨op=9∨op=10∨op=11∨op=12∨op=13∨op=14∨op=15∨op=16∨op=17∨op=18∨op=19∨op=20∨op=21∨op=22∨op=23∨op=24∨op=25∨op=27∨op=28:=by omega
 clear h1 h2 n2 n3 n4 n5 n26
 rcases h3 with rfl | rfl | rfl | rfl | rfl | rfl | rfl | rfl | rfl | rfl | rfl | rfl | rfl | rfl | rfl | rfl | rfl | rfl | rfl | rfl | rfl | rfl | rfl
 ·have:l=[]:=by simpa [bI,bL,bK,ops] using hc
  subst this; exact aGv
 ·obtain ⟨x,y,rfl⟩:=rH (l:=l) (by simp [bI,bL,bK,ops] at hc; omega)
  exact aGr x y
 ·obtain ⟨x,y,rfl⟩:=rH (l:=l) (by simp [bI,bL,bK,ops] at hc; omega)
  exact aGs x y
 ·obtain ⟨x,y,rfl⟩:=rH (l:=l) (by simp [bI,bL,bK,ops] at hc; omega)
  exact aGt x y
 ·obtain ⟨x,y,rfl⟩:=rH (l:=l) (by simp [bI,bL,bK,ops] at hc; omega)
  exact aGu x y
 ·obtain ⟨x,y,rfl⟩:=rH (l:=l) (by simp [bI,bL,bK,ops] at hc; omega)
  exact aEJ x y
 ·obtain ⟨x,rfl⟩:=WZ (l:=l) (by simp [bI,bL,bK,ops] at hc; omega)
  exact aEL x
 ·obtain ⟨x,y,rfl⟩:=rH (l:=l) (by simp [bI,bL,bK,ops] at hc; omega)
  exact aEK x y
 ·obtain ⟨x,rfl⟩:=WZ (l:=l) (by simp [bI,bL,bK,ops] at hc; omega)
  exact aEY x
 ·obtain ⟨x,y,rfl⟩:=rH (l:=l) (by simp [bI,bL,bK,ops] at hc; omega)
  exact aEM x y
 ·obtain ⟨x,y,rfl⟩:=rH (l:=l) (by simp [bI,bL,bK,ops] at hc; omega)
  exact aEN x y
 ·obtain ⟨x,y,rfl⟩:=rH (l:=l) (by simp [bI,bL,bK,ops] at hc; omega)
  exact aEO x y
 ·obtain ⟨x,y,rfl⟩:=rH (l:=l) (by simp [bI,bL,bK,ops] at hc; omega)
  exact aEP x y
 ·obtain ⟨x,y,rfl⟩:=rH (l:=l) (by simp [bI,bL,bK,ops] at hc; omega)
  exact aEQ x y
 ·obtain ⟨x,y,rfl⟩:=rH (l:=l) (by simp [bI,bL,bK,ops] at hc; omega)
  exact aER x y
 ·obtain ⟨x,y,rfl⟩:=rH (l:=l) (by simp [bI,bL,bK,ops] at hc; omega)
  exact aES x y
 ·obtain ⟨x,rfl⟩:=WZ (l:=l) (by simp [bI,bL,bK,ops] at hc; omega)
  exact aET x
 ·obtain ⟨x,y,rfl⟩:=rH (l:=l) (by simp [bI,bL,bK,ops] at hc; omega)
  exact aEU x y
 ·obtain ⟨x,y,rfl⟩:=rH (l:=l) (by simp [bI,bL,bK,ops] at hc; omega)
  exact aEV x y
 ·obtain ⟨x,rfl⟩:=WZ (l:=l) (by simp [bI,bL,bK,ops] at hc; omega)
  exact aEW x
 ·obtain ⟨x,rfl⟩:=WZ (l:=l) (by simp [bI,bL,bK,ops] at hc; omega)
  exact aEX x
 ·obtain ⟨x,y,rfl⟩:=rH (l:=l) (by simp [bI,bL,bK,ops] at hc; omega)
  exact aEZ x y
 ·cases l with
  | nil=>exact absurd hc (by decide)
  | cons x ys=>exact aFa x ys (by simp at hl; omega)
def oT:List (List UInt8)→List UInt8
 | []=>[32]
 | w::ws=>32::(w++oT ws)
def jA (sub:List UInt8):List UInt8→Bool
 | []=>sub.isEmpty
 | b::l=>sub.isPrefixOf (b::l)||jA sub l
theorem uI (sub:List UInt8):∀ l:List UInt8,decide (0≤Lib.index l sub)=jA sub l
 | []=>by unfold Lib.index jA; cases sub <;> simp
 | b::l=>by
   have ih:=uI sub l
   have hge:=Lib.index_ge l sub
   unfold Lib.index jA
   cases h:sub.isPrefixOf (b::l) with
   | true=>simp
   | false =>
     rw [← ih]
     simp only [Bool.false_or,Bool.false_eq_true,if_false]
     by_cases h1:Lib.index l sub=-1
     ·simp [h1]
     ·have:(Lib.index l sub==-1)=false:=by simpa using h1
      rw [this]
      simp
      omega
def jR (w:List UInt8):Bool:=w.all (· != 32)
theorem wY (s:List UInt8):∀ (w l:List UInt8),jR w=true→jA (32::(s++[32])) (w++l)=jA (32::(s++[32])) l
 | [],l,_=>rfl
 | b::w,l,h=>by
   simp only [jR,List.all_cons,Bool.and_eq_true,bne_iff_ne,ne_eq] at h
   have h2:jR w=true:=h.2
   rw [List.cons_append,jA,wY s w l h2]
   have:((32:UInt8)==b)=false:=by simpa using fun e=>h.1 e.symm
   simp [List.isPrefixOf,this]
theorem KP (ws:List (List UInt8)):∃ l,oT ws=32::l:=by cases ws <;> exact ⟨_,rfl⟩
theorem wZ:∀ (s w l:List UInt8),jR s=true→jR w=true→(s++[32]).isPrefixOf (w++32::l)=(s==w)
 | [],[],l,_,_=>by simp [List.isPrefixOf]
 | [],b::w,l,_,h=>by
   simp only [jR,List.all_cons,Bool.and_eq_true,bne_iff_ne,ne_eq] at h
   have:((32:UInt8)==b)=false:=by simpa using fun e=>h.1 e.symm
   simp [List.isPrefixOf,this]
 | a::s,[],l,h,_=>by
   simp only [jR,List.all_cons,Bool.and_eq_true,bne_iff_ne,ne_eq] at h
   have:(a==(32:UInt8))=false:=by simpa using h.1
   simp [List.isPrefixOf,this]
 | a::s,b::w,l,h1,h2=>by
   simp only [jR,List.all_cons,Bool.and_eq_true] at h1 h2
   have ih:=wZ s w l h1.2 h2.2
   simp only [List.cons_append,List.isPrefixOf]
   rw [ih]
   rfl
theorem rW (s:List UInt8) (hs:jR s=true):∀ ws:List (List UInt8),ws.all jR=true→jA (32::(s++[32])) (oT ws)=ws.contains s
 | [],_=>by cases s <;> simp [oT,jA,List.isPrefixOf]
 | w::ws,h=>by
   simp only [List.all_cons,Bool.and_eq_true] at h
   rw [oT,jA,wY s w _ h.1,rW s hs ws h.2]
   obtain ⟨l,hl⟩:=KP ws
   simp only [List.isPrefixOf,BEq.rfl,Bool.true_and]
   rw [hl,wZ s w l hs h.1,Bool.eq_iff_iff]
   simp
def sK (c:UInt8):Bool:=decide (97≤c.toNat)&&decide (c.toNat≤122)
def iA (c:UInt8):Bool:=sK c||(decide (48≤c.toNat)&&decide (c.toNat≤57)||c.toNat==95)
theorem KQ {c:UInt8} (h:iA c=true):(c != 32)=true:=by
 have:c ≠ 32:=by rintro rfl; revert h; decide
 simpa using this
theorem CI {s:List UInt8} (h:s.all iA=true):jR s=true:=by
 rw [List.all_eq_true] at h
 exact List.all_eq_true.2 fun x hx=>KQ (h x hx)
def qX:List UInt8→Bool
 | []=>false
 | c::_=>sK c
def iP (ws:List (List UInt8)) (s:List UInt8):Bool:=decide (s.length≤16)&&(qX s&&(s.all iA&&!ws.contains s))
end Go.Proofs.Tryz
namespace Go.Proofs
open Go.Shelf
def Tryz.lays144_ren:Go.Shelf.Ren:=⟨fun | 144=>136 | 143=>207 | 219=>284 | 217=>342 | 225=>343 | 224=>344 | 267=>345 | 266=>387 | 314=>388 | n=>n,fun | 9=>9 | 4=>4 | 3=>3 | 5=>5 | 46=>346 | 146=>391 | 51=>384 | n=>n,fun | 1=>3 | n=>n⟩
theorem Tryz.lays144:Go.Proofs.Lays.n144 Tryz.prog Tryz.lays144_ren:={
 mixed:=by kernel_rfl
 f143:=Tryz.func207.trans (congrArg some (by kernel_rfl))
 f144:=Tryz.func136.trans (congrArg some (by kernel_rfl))
 f217:=Tryz.func342.trans (congrArg some (by kernel_rfl))
 f219:=Tryz.func284.trans (congrArg some (by kernel_rfl))
 f224:=Tryz.func344.trans (congrArg some (by kernel_rfl))
 f225:=Tryz.func343.trans (congrArg some (by kernel_rfl))
 f266:=Tryz.func387.trans (congrArg some (by kernel_rfl))
 f267:=Tryz.func345.trans (congrArg some (by kernel_rfl))
 f314:=Tryz.func388.trans (congrArg some (by kernel_rfl))
 t3:=Tryz.underlying3
 a3:=Tryz.isAgg3
 z3:=Tryz.sizeOf3
 v3:=Tryz.zeroValue3
 t4:=Tryz.underlying4
 a4:=Tryz.isAgg4
 z4:=Tryz.sizeOf4
 v4:=Tryz.zeroValue4
 t5:=Tryz.underlying5
 a5:=Tryz.isAgg5
 z5:=Tryz.sizeOf5
 v5:=Tryz.zeroValue5
 t9:=Tryz.underlying9
 a9:=Tryz.isAgg9
 z9:=Tryz.sizeOf9
 v9:=Tryz.zeroValue9
 t46:=Tryz.underlying346
 a46:=Tryz.isAgg346
 z46:=Tryz.sizeOf346
 v46:=Tryz.zeroValue346
 t51:=Tryz.underlying384
 a51:=Tryz.isAgg384
 z51:=Tryz.sizeOf384
 v51:=Tryz.zeroValue384
 t146:=Tryz.underlying391
 a146:=Tryz.isAgg391
 z146:=Tryz.sizeOf391
 v146:=Tryz.zeroValue391
 g1:=by kernel_rfl }
open Go.RowKit Go.Lib in
theorem Tryz.strings_Contains (s sub:ByteArray) (m:Int) (w:World) (hs:s.size<4294967281) (hm:w.cell? ⟨3,0,none⟩=some (.int .i64 m)) :
  Calls Tryz.prog 136 #[.string s,.string sub] w fun e w'=>e=.returned (.bool (Lib.contains s.data.toList sub.data.toList))∧w'=w:=Any.strings_Contains Tryz.lays144 s sub m w hs hm
end Go.Proofs
namespace Go.Proofs.Tryz
open Go.Ab
set_option maxRecDepth 100000
def XP (v:Value):Prop:=∃ m,v=.int .i64 m
def esG (g:Nat):Option (List D):=if g=2 then some [.int .i64 0,.int .i64 0,.str []] else if g=1 then some opsC else if g=3 then some [.any XP] else none
noncomputable def Es:dZ:=⟨Tryz.prog,esG⟩
@[simp] theorem aHt:Es.P=Tryz.prog:=id rfl
@[simp] theorem aFc (g:Nat):Es.G g=esG g:=rfl
theorem cF:Es.P.follows .mixedOrders=true:=by kernel_rfl
theorem upo {f:FuncId} {xs:List AV} {B:List Blk} {y:AV} {B':List Blk} (h:Cf Eo f xs B y B'):Cf Es f xs B y B' :=
 Cf.more (E:=Eo) (E':=Es) rfl (fun g cs e=>by
  rw [aFe] at e
  rw [aFc,esG]
  split at e
  ·rename_i h0; rw [if_pos h0]; exact e
  ·rename_i h0
   split at e
   ·rename_i h1; rw [if_neg h0,if_pos h1]; exact e
   ·cases e) h
theorem gL {f:FuncId} {xs:List AV} {B:List Blk} {y:AV} {B':List Blk} (h:Cf En f xs B y B'):Cf Es f xs B y B':=upo (up h)
def words:List (List UInt8):=[[115,101,108,101,99,116],[100,105,115,116,105,110,99,116],[97,108,108],[102,114,111,109],[119,104,101,114,101],[103,114,111,117,112],[98,121],[104,97,118,105,110,103],[97,115],[111,110],[117,110,105,111,110],[101,120,99,101,112,116],[105,110,116,101,114,115,101,99,116],[106,111,105,110],[105,110,110,101,114],[108,101,102,116],[114,105,103,104,116],[102,117,108,108],[99,114,111,115,115],[115,101,109,105],[97,110,116,105],[97,110,100],[111,114],[110,111,116],[105,115],[110,117,108,108],[116,114,117,101],[102,97,108,115,101],[105,110],[99,97,115,101],[119,104,101,110],[116,104,101,110],[101,108,115,101],[101,110,100],[118,97,108,117,101,115],[116,97,98,108,101],[112,114,105,109,97,114,121],[117,110,105,113,117,101],[102,111,114,101,105,103,110],[114,101,102,101,114,101,110,99,101,115],[99,104,101,99,107],[105,110,116],[98,111,111,108],[116,101,120,116],[99,111,117,110,116],[115,117,109],[109,105,110],[109,97,120],[99,111,97,108,101,115,99,101],[108,101,110,103,116,104],[115,97,109,101],[109,111,100]]
theorem TW {w:World} {g:Gh} {B:List Blk} {bl:Nat→Blk} (m:Mem (fY Es w g B) bl w g):∃ n,w.cell? ⟨3,0,none⟩=some (.int .i64 n):=by
 have hc:=m.glob 3 [.any XP] (by simp [fY,esG])
 simp only [dC,aX] at hc
 obtain ⟨⟨v,hv,⟨n,rfl⟩,_⟩,_⟩:=hc
 exact ⟨n,m.con _ _ _ hv⟩
theorem OJ (s sub:List UInt8) (hs:s.length<4294967281):Cf Es 136 [.d (.str s),.d (.str sub)] [] (.d (.bool (jA sub s))) []:=by
 refine qA (by kernel_rfl) fun w g vs hr m=>?_
 obtain ⟨_,_,rfl,r1,_,_,rfl,r2,r3⟩:=hr
 simp only [bA] at r3
 subst r3
 simp only [aJ,aX] at r1 r2
 subst r1 r2
 obtain ⟨n,hn⟩:=TW m
 refine (Tryz.strings_Contains _ _ n w (by simpa [ByteArray.size_mk'] using hs) hn).mono ?_
 rintro e w' ⟨rfl,rfl⟩
 refine ⟨_,rfl,?_,.refl _ _⟩
 simp only [aJ,aX,Lib.contains,uI]
end Go.Proofs.Tryz
