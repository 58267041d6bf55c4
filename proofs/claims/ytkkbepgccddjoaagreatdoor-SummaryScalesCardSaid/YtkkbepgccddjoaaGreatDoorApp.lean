import Derived.Test.YtkkbepgccddjoaaGreatDoorCEnvR
set_option linter.all false
namespace Go.Proofs.Tryz
open Go.Ab
set_option maxRecDepth 100000
set_option maxHeartbeats 4000000
theorem JH (b:Bool):Cf En 193 [.d (.bool b)] [] (zI b).a []:=by
 refine cI aW (fn:=Tryz.f193) rfl ?_
 cases b
 ·simp
  (repeat' first|contradiction|exact .ok|apply And.intro|intro _|(apply gc<;>simp+contextual))
  refine aP (mJ 0) ?_
  simp [mI,zI,V.a]
  all_goals exact gz
 ·simp
  (repeat' first|contradiction|exact .ok|apply And.intro|intro _|(apply gc<;>simp+contextual))
  refine aP (mJ 1) ?_
  simp [nW,zI,V.a]
  all_goals exact gz
def iD (l:List V):V:=(l[0]?).getD nulV
def lA (l:List V):V:=(l[1]?).getD nulV
def inV (x:V) (ys:List V):V:=ys.foldl (fun o y=>LE o (qU x y)) ⟨2,0,[]⟩
def aT (op:Int) (l:List V):V :=
 if op=6∨op=7∨op=8∨op=9∨op=10∨op=12 then lB op (iD l) (lA l)
 else if op=11 then lB 7 ⟨1,0,[]⟩ (iD l)
 else if op=13 then (if (iD l).k=3 then ⟨1,(iD l).t.length,[]⟩ else nulV)
 else if op=14 then qU (iD l) (lA l)
 else if op=15 then oO (qU (iD l) (lA l))
 else if op=16 then eS (iD l) (lA l)
 else if op=17 then oO (eS (lA l) (iD l))
 else if op=18 then eS (lA l) (iD l)
 else if op=19 then oO (eS (iD l) (lA l))
 else if op=20 then zI ((iD l).same (lA l))
 else if op=21 then zI ((iD l).k==0)
 else if op=22 then DC (iD l) (lA l)
 else if op=23 then LE (iD l) (lA l)
 else if op=24 then oO (iD l)
 else if op=25 then zI ((iD l).tr==1)
 else if op=27 then (if (iD l).k=0 then lA l else iD l)
 else if op=28 then inV (iD l) (l.drop 1)
 else nulV
theorem aIN (x y:V):Cf En 145 [.d (.int .i64 6),.d (.sl ([x,y].map V.c))] [] (aT 6 [x,y]).a []:=by
 have e:aT 6 [x,y]=lB 6 x y:=by simp [aT,iD,lA]
 rw [e]
 refine cI aW (fn:=Tryz.f145) rfl ?_
 simp [V.c]
 (repeat' first|contradiction|exact .ok|apply And.intro|intro _|(apply gc<;>simp+contextual))
 refine aA (pR 6 x y) (by simp [V.a]) ?_
 simp [V.a]
 all_goals exact gz
theorem aIO (x y:V):Cf En 145 [.d (.int .i64 7),.d (.sl ([x,y].map V.c))] [] (aT 7 [x,y]).a []:=by
 have e:aT 7 [x,y]=lB 7 x y:=by simp [aT,iD,lA]
 rw [e]
 refine cI aW (fn:=Tryz.f145) rfl ?_
 simp [V.c]
 (repeat' first|contradiction|exact .ok|apply And.intro|intro _|(apply gc<;>simp+contextual))
 refine aA (pR 7 x y) (by simp [V.a]) ?_
 simp [V.a]
 all_goals exact gz
theorem aIP (x y:V):Cf En 145 [.d (.int .i64 8),.d (.sl ([x,y].map V.c))] [] (aT 8 [x,y]).a []:=by
 have e:aT 8 [x,y]=lB 8 x y:=by simp [aT,iD,lA]
 rw [e]
 refine cI aW (fn:=Tryz.f145) rfl ?_
 simp [V.c]
 (repeat' first|contradiction|exact .ok|apply And.intro|intro _|(apply gc<;>simp+contextual))
 refine aA (pR 8 x y) (by simp [V.a]) ?_
 simp [V.a]
 all_goals exact gz
theorem aIQ (x y:V):Cf En 145 [.d (.int .i64 9),.d (.sl ([x,y].map V.c))] [] (aT 9 [x,y]).a []:=by
 have e:aT 9 [x,y]=lB 9 x y:=by simp [aT,iD,lA]
 rw [e]
 refine cI aW (fn:=Tryz.f145) rfl ?_
 simp [V.c]
 (repeat' first|contradiction|exact .ok|apply And.intro|intro _|(apply gc<;>simp+contextual))
 refine aA (pR 9 x y) (by simp [V.a]) ?_
 simp [V.a]
 all_goals exact gz
theorem aHh (x y:V):Cf En 145 [.d (.int .i64 10),.d (.sl ([x,y].map V.c))] [] (aT 10 [x,y]).a []:=by
 have e:aT 10 [x,y]=lB 10 x y:=by simp [aT,iD,lA]
 rw [e]
 refine cI aW (fn:=Tryz.f145) rfl ?_
 simp [V.c]
 (repeat' first|contradiction|exact .ok|apply And.intro|intro _|(apply gc<;>simp+contextual))
 refine aA (pR 10 x y) (by simp [V.a]) ?_
 simp [V.a]
 all_goals exact gz
theorem aHi (x y:V):Cf En 145 [.d (.int .i64 12),.d (.sl ([x,y].map V.c))] [] (aT 12 [x,y]).a []:=by
 have e:aT 12 [x,y]=lB 12 x y:=by simp [aT,iD,lA]
 rw [e]
 refine cI aW (fn:=Tryz.f145) rfl ?_
 simp [V.c]
 (repeat' first|contradiction|exact .ok|apply And.intro|intro _|(apply gc<;>simp+contextual))
 refine aA (pR 12 x y) (by simp [V.a]) ?_
 simp [V.a]
 all_goals exact gz
theorem aHj (x:V):Cf En 145 [.d (.int .i64 11),.d (.sl ([x].map V.c))] [] (aT 11 [x]).a []:=by
 have e:aT 11 [x]=lB 7 ⟨1,0,[]⟩ x:=by simp [aT,iD]
 rw [e]
 refine cI aW (fn:=Tryz.f145) rfl ?_
 simp [V.c]
 (repeat' first|contradiction|exact .ok|apply And.intro|intro _|(apply gc<;>simp+contextual))
 refine aA (pR 7 ⟨1,0,[]⟩ x) (by simp [V.a]) ?_
 simp [V.a]
 all_goals exact gz
theorem aHk (x y:V):Cf En 145 [.d (.int .i64 14),.d (.sl ([x,y].map V.c))] [] (aT 14 [x,y]).a []:=by
 have e:aT 14 [x,y]=qU x y:=by simp [aT,iD,lA]
 rw [e]
 refine cI aW (fn:=Tryz.f145) rfl ?_
 simp [V.c]
 (repeat' first|contradiction|exact .ok|apply And.intro|intro _|(apply gc<;>simp+contextual))
 refine aA (aGd x y) (by simp [V.a]) ?_
 simp [V.a]
 all_goals exact gz
theorem aHl (x y:V):Cf En 145 [.d (.int .i64 15),.d (.sl ([x,y].map V.c))] [] (aT 15 [x,y]).a []:=by
 have e:aT 15 [x,y]=oO (qU x y):=by simp [aT,iD,lA]
 rw [e]
 refine cI aW (fn:=Tryz.f145) rfl ?_
 simp [V.c]
 (repeat' first|contradiction|exact .ok|apply And.intro|intro _|(apply gc<;>simp+contextual))
 refine aA (aGd x y) (by simp [V.a]) ?_
 simp [V.a]
 (repeat' first|contradiction|exact .ok|apply And.intro|intro _|(apply gc<;>simp+contextual))
 refine aA (VE (qU x y)) (by simp [V.a]) ?_
 simp [V.a]
 all_goals exact gz
theorem aHm (x y:V):Cf En 145 [.d (.int .i64 16),.d (.sl ([x,y].map V.c))] [] (aT 16 [x,y]).a []:=by
 have e:aT 16 [x,y]=eS x y:=by simp [aT,iD,lA]
 rw [e]
 refine cI aW (fn:=Tryz.f145) rfl ?_
 simp [V.c]
 (repeat' first|contradiction|exact .ok|apply And.intro|intro _|(apply gc<;>simp+contextual))
 refine aA (JX x y) (by simp [V.a]) ?_
 simp [V.a]
 all_goals exact gz
theorem aHn (x y:V):Cf En 145 [.d (.int .i64 17),.d (.sl ([x,y].map V.c))] [] (aT 17 [x,y]).a []:=by
 have e:aT 17 [x,y]=oO (eS y x):=by simp [aT,iD,lA]
 rw [e]
 refine cI aW (fn:=Tryz.f145) rfl ?_
 simp [V.c]
 (repeat' first|contradiction|exact .ok|apply And.intro|intro _|(apply gc<;>simp+contextual))
 refine aA (JX y x) (by simp [V.a]) ?_
 simp [V.a]
 (repeat' first|contradiction|exact .ok|apply And.intro|intro _|(apply gc<;>simp+contextual))
 refine aA (VE (eS y x)) (by simp [V.a]) ?_
 simp [V.a]
 all_goals exact gz
theorem aHo (x y:V):Cf En 145 [.d (.int .i64 18),.d (.sl ([x,y].map V.c))] [] (aT 18 [x,y]).a []:=by
 have e:aT 18 [x,y]=eS y x:=by simp [aT,iD,lA]
 rw [e]
 refine cI aW (fn:=Tryz.f145) rfl ?_
 simp [V.c]
 (repeat' first|contradiction|exact .ok|apply And.intro|intro _|(apply gc<;>simp+contextual))
 refine aA (JX y x) (by simp [V.a]) ?_
 simp [V.a]
 all_goals exact gz
theorem aHp (x y:V):Cf En 145 [.d (.int .i64 19),.d (.sl ([x,y].map V.c))] [] (aT 19 [x,y]).a []:=by
 have e:aT 19 [x,y]=oO (eS x y):=by simp [aT,iD,lA]
 rw [e]
 refine cI aW (fn:=Tryz.f145) rfl ?_
 simp [V.c]
 (repeat' first|contradiction|exact .ok|apply And.intro|intro _|(apply gc<;>simp+contextual))
 refine aA (JX x y) (by simp [V.a]) ?_
 simp [V.a]
 (repeat' first|contradiction|exact .ok|apply And.intro|intro _|(apply gc<;>simp+contextual))
 refine aA (VE (eS x y)) (by simp [V.a]) ?_
 simp [V.a]
 all_goals exact gz
theorem aHq (x y:V):Cf En 145 [.d (.int .i64 20),.d (.sl ([x,y].map V.c))] [] (aT 20 [x,y]).a []:=by
 have e:aT 20 [x,y]=zI (x.same y):=by simp [aT,iD,lA]
 rw [e]
 refine cI aW (fn:=Tryz.f145) rfl ?_
 simp [V.c]
 (repeat' first|contradiction|exact .ok|apply And.intro|intro _|(apply gc<;>simp+contextual))
 refine aA (aDe x y) (by simp [V.a]) ?_
 simp [V.a]
 (repeat' first|contradiction|exact .ok|apply And.intro|intro _|(apply gc<;>simp+contextual))
 refine aA (JH (x.same y)) (by simp) ?_
 simp [V.a]
 all_goals exact gz
theorem aHr (x:V):Cf En 145 [.d (.int .i64 21),.d (.sl ([x].map V.c))] [] (aT 21 [x]).a []:=by
 have e:aT 21 [x]=zI (x.k==0):=by simp [aT,iD]
 rw [e]
 refine cI aW (fn:=Tryz.f145) rfl ?_
 simp [V.c]
 (repeat' first|contradiction|exact .ok|apply And.intro|intro _|(apply gc<;>simp+contextual))
 refine aA (JH (x.k==0)) (by simp) ?_
 simp [V.a]
 all_goals exact gz
theorem aHs (x y:V):Cf En 145 [.d (.int .i64 22),.d (.sl ([x,y].map V.c))] [] (aT 22 [x,y]).a []:=by
 have e:aT 22 [x,y]=DC x y:=by simp [aT,iD,lA]
 rw [e]
 refine cI aW (fn:=Tryz.f145) rfl ?_
 simp [V.c]
 (repeat' first|contradiction|exact .ok|apply And.intro|intro _|(apply gc<;>simp+contextual))
 refine aA (aHL x y) (by simp [V.a]) ?_
 simp [V.a]
 all_goals exact gz
theorem aHt (x y:V):Cf En 145 [.d (.int .i64 23),.d (.sl ([x,y].map V.c))] [] (aT 23 [x,y]).a []:=by
 have e:aT 23 [x,y]=LE x y:=by simp [aT,iD,lA]
 rw [e]
 refine cI aW (fn:=Tryz.f145) rfl ?_
 simp [V.c]
 (repeat' first|contradiction|exact .ok|apply And.intro|intro _|(apply gc<;>simp+contextual))
 refine aA (aHM x y) (by simp [V.a]) ?_
 simp [V.a]
 all_goals exact gz
theorem aHu (x:V):Cf En 145 [.d (.int .i64 24),.d (.sl ([x].map V.c))] [] (aT 24 [x]).a []:=by
 have e:aT 24 [x]=oO x:=by simp [aT,iD]
 rw [e]
 refine cI aW (fn:=Tryz.f145) rfl ?_
 simp [V.c]
 (repeat' first|contradiction|exact .ok|apply And.intro|intro _|(apply gc<;>simp+contextual))
 refine aA (VE x) (by simp [V.a]) ?_
 simp [V.a]
 all_goals exact gz
theorem aHv (x:V):Cf En 145 [.d (.int .i64 25),.d (.sl ([x].map V.c))] [] (aT 25 [x]).a []:=by
 have e:aT 25 [x]=zI (x.tr==1):=by simp [aT,iD]
 rw [e]
 refine cI aW (fn:=Tryz.f145) rfl ?_
 simp [V.c]
 (repeat' first|contradiction|exact .ok|apply And.intro|intro _|(apply gc<;>simp+contextual))
 refine aA (nL x) (by simp [V.a]) ?_
 simp [V.a]
 (repeat' first|contradiction|exact .ok|apply And.intro|intro _|(apply gc<;>simp+contextual))
 refine aA (JH (x.tr==1)) (by simp) ?_
 simp [V.a]
 all_goals exact gz
theorem aHw (x:V):Cf En 145 [.d (.int .i64 13),.d (.sl ([x].map V.c))] [] (aT 13 [x]).a []:=by
 refine cI aW (fn:=Tryz.f145) rfl ?_
 by_cases h:x.k=3
 ·rw [show aT 13 [x]=⟨1,x.t.length,[]⟩ from by simp [aT,iD,h]]
  simp [V.c,V.a,h]
  (repeat' first|contradiction|exact .ok|apply And.intro|intro _|(apply gc<;>simp+contextual[h]))
 ·rw [show aT 13 [x]=nulV from by simp [aT,iD,h]]
  simp [V.c,V.a,h,nulV]
  (repeat' first|contradiction|exact .ok|apply And.intro|intro _|(apply gc<;>simp+contextual[h]))
theorem aHx (x y:V):Cf En 145 [.d (.int .i64 27),.d (.sl ([x,y].map V.c))] [] (aT 27 [x,y]).a []:=by
 refine cI aW (fn:=Tryz.f145) rfl ?_
 by_cases h:x.k=0
 ·rw [show aT 27 [x,y]=y from by simp [aT,iD,lA,h]]
  simp [V.c,V.a,h]
  (repeat' first|contradiction|exact .ok|apply And.intro|intro _|(apply gc<;>simp+contextual[h]))
 ·rw [show aT 27 [x,y]=x from by simp [aT,iD,h]]
  simp [V.c,V.a,h]
  (repeat' first|contradiction|exact .ok|apply And.intro|intro _|(apply gc<;>simp+contextual[h]))
theorem V.clen (v:V):v.c.length=3:=rfl
theorem aAH (x:V) (ys:List V) (i:Nat) (y:V) (h:ys[i]?=some y):inV x (ys.take (i+1))=LE (inV x (ys.take i)) (qU x y):=by
 unfold inV
 rw [List.take_add_one,h]
 simp
theorem aHy (x:V) (ys:List V) (hl:ys.length≤1000):Cf En 145 [.d (.int .i64 28),.d (.sl ((x::ys).map V.c))] [] (aT 28 (x::ys)).a []:=by
 have e:aT 28 (x::ys)=inV x ys:=by simp [aT,iD]
 rw [e]
 refine cI aW (fn:=Tryz.f145) rfl ?_
 simp
 (repeat' first|contradiction|exact .ok|apply And.intro|intro _|(apply gc<;>simp+contextual))
 refine aP (mJ 0) ?_
 have htk:List.take ys.length (List.map V.c ys)=List.map V.c ys:=List.take_of_length_le (by simp)
 have h1:(1:Int)≤(ys.length:Int)+1:=by omega
 simp only [mI,V.a]
 simp [htk,h1,V.clen]
 (repeat' first|contradiction|exact .ok|apply And.intro|intro _|(apply gc<;>simp+contextual))
 refine aL aW (fun i:Nat=>{ s:=cE [(1,.d (.sl ((x::ys).map V.c))),(4,.ptr 4 0 0),(5,.ptr 5 0 0),(168,.d (.sl (ys.map V.c))),(169,.d (.int .i64 ys.length)),(170,.d (.int .i64 i))],b:=cC [(4,4,.var [.d (.int .i64 0),.d (.int .i64 0),.d (.str [])]),(5,5,.var (inV x (ys.take i)).a.cells)] }) (fun i:Nat=>i≤ys.length) (fun i=>ys.length - i) 0 (by simp) (sM _ [(4,4,_),(5,5,_)] (by simp [aB,Blk.live,V.a,inV]) (by simp [aB])) ?_
 intro i hi
 by_cases hlt:i<ys.length
 ·have hg:ys[i]?=some ys[i]:=gE hlt
  have hlt':(i:Int)<ys.length:=by omega
  have ht:=aAH x ys i ys[i] hg
  simp [hlt,hlt',V.c,V.a]
  (repeat' first|contradiction|exact .ok|apply And.intro|intro _|(apply gc<;>simp+contextual))
  refine aA (aGd x ys[i]) (by simp [V.a]) ?_
  simp [V.a]
  refine aA (aHM (inV x (ys.take i)) (qU x ys[i])) (by simp [V.a]) ?_
  simp [V.a]
  (repeat' first|contradiction|exact .ok|apply And.intro|intro _|(apply gc<;>simp+contextual))
  refine ⟨i+1,hlt,?_,?_⟩
  ·refine sM _ [(4,4,_),(5,5,_)] (by simp [aB,Blk.live,ht]) ?_
   simp [aB,V.c]
   exact bL (by omega) (by omega)
  ·simp; omega
 ·have hie:i=ys.length:=by omega
  subst hie
  simp [V.a,V.c]
  all_goals exact gz
theorem aIR:Cf En 145 [.d (.int .i64 1),.d (.sl (([]:List V).map V.c))] [] (aT 1 []).a []:=by
 rw [show aT 1 []=nulV from by simp [aT]]
 refine cI aW (fn:=Tryz.f145) rfl ?_
 simp [nulV,V.a]
 all_goals exact gz
theorem aAI {l:List V} (h:l.length=1):∃ x,l=[x]:=by
 match l,h with
 | [x],_=>exact ⟨x,rfl⟩
theorem sY {l:List V} (h:l.length=2):∃ x y,l=[x,y]:=by
 match l,h with
 | [x,y],_=>exact ⟨x,y,rfl⟩
theorem XX (op:Int) (l:List V) (hc:bN op l.length=true) (hl:l.length≤1000) (n2:op ≠ 2) (n3:op ≠ 3) (n4:op ≠ 4) (n5:op ≠ 5) (n26:op ≠ 26) :
  Cf En 145 [.d (.int .i64 op),.d (.sl (l.map V.c))] [] (aT op l).a []:=by
 have h1:bR op=true:=by
  unfold bN at hc
  simp only [Bool.and_eq_true] at hc
  exact hc.1
 have h2:1≤op∧op≤28:=by simpa [bR] using h1
 have h3:op=1∨op=6∨op=7∨op=8∨op=9∨op=10∨op=11∨op=12∨op=13∨op=14∨op=15∨op=16∨op=17∨op=18∨op=19∨op=20∨op=21∨op=22∨op=23∨op=24∨op=25∨op=27∨op=28:=by omega
 clear h1 h2 n2 n3 n4 n5 n26
 rcases h3 with rfl | rfl | rfl | rfl | rfl | rfl | rfl | rfl | rfl | rfl | rfl | rfl | rfl | rfl | rfl | rfl | rfl | rfl | rfl | rfl | rfl | rfl | rfl
 ·have:l=[]:=by simpa [bN,bR,bQ,ops] using hc
  subst this; exact aIR
 ·obtain ⟨x,y,rfl⟩:=sY (l:=l) (by simp [bN,bR,bQ,ops] at hc; omega)
  exact aIN x y
 ·obtain ⟨x,y,rfl⟩:=sY (l:=l) (by simp [bN,bR,bQ,ops] at hc; omega)
  exact aIO x y
 ·obtain ⟨x,y,rfl⟩:=sY (l:=l) (by simp [bN,bR,bQ,ops] at hc; omega)
  exact aIP x y
 ·obtain ⟨x,y,rfl⟩:=sY (l:=l) (by simp [bN,bR,bQ,ops] at hc; omega)
  exact aIQ x y
 ·obtain ⟨x,y,rfl⟩:=sY (l:=l) (by simp [bN,bR,bQ,ops] at hc; omega)
  exact aHh x y
 ·obtain ⟨x,rfl⟩:=aAI (l:=l) (by simp [bN,bR,bQ,ops] at hc; omega)
  exact aHj x
 ·obtain ⟨x,y,rfl⟩:=sY (l:=l) (by simp [bN,bR,bQ,ops] at hc; omega)
  exact aHi x y
 ·obtain ⟨x,rfl⟩:=aAI (l:=l) (by simp [bN,bR,bQ,ops] at hc; omega)
  exact aHw x
 ·obtain ⟨x,y,rfl⟩:=sY (l:=l) (by simp [bN,bR,bQ,ops] at hc; omega)
  exact aHk x y
 ·obtain ⟨x,y,rfl⟩:=sY (l:=l) (by simp [bN,bR,bQ,ops] at hc; omega)
  exact aHl x y
 ·obtain ⟨x,y,rfl⟩:=sY (l:=l) (by simp [bN,bR,bQ,ops] at hc; omega)
  exact aHm x y
 ·obtain ⟨x,y,rfl⟩:=sY (l:=l) (by simp [bN,bR,bQ,ops] at hc; omega)
  exact aHn x y
 ·obtain ⟨x,y,rfl⟩:=sY (l:=l) (by simp [bN,bR,bQ,ops] at hc; omega)
  exact aHo x y
 ·obtain ⟨x,y,rfl⟩:=sY (l:=l) (by simp [bN,bR,bQ,ops] at hc; omega)
  exact aHp x y
 ·obtain ⟨x,y,rfl⟩:=sY (l:=l) (by simp [bN,bR,bQ,ops] at hc; omega)
  exact aHq x y
 ·obtain ⟨x,rfl⟩:=aAI (l:=l) (by simp [bN,bR,bQ,ops] at hc; omega)
  exact aHr x
 ·obtain ⟨x,y,rfl⟩:=sY (l:=l) (by simp [bN,bR,bQ,ops] at hc; omega)
  exact aHs x y
 ·obtain ⟨x,y,rfl⟩:=sY (l:=l) (by simp [bN,bR,bQ,ops] at hc; omega)
  exact aHt x y
 ·obtain ⟨x,rfl⟩:=aAI (l:=l) (by simp [bN,bR,bQ,ops] at hc; omega)
  exact aHu x
 ·obtain ⟨x,rfl⟩:=aAI (l:=l) (by simp [bN,bR,bQ,ops] at hc; omega)
  exact aHv x
 ·obtain ⟨x,y,rfl⟩:=sY (l:=l) (by simp [bN,bR,bQ,ops] at hc; omega)
  exact aHx x y
 ·cases l with
  | nil=>exact absurd hc (by decide)
  | cons x ys=>exact aHy x ys (by simp at hl; omega)
end Go.Proofs.Tryz
