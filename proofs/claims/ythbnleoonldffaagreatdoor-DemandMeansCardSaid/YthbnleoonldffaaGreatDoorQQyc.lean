import Derived.Test.YthbnleoonldffaaGreatDoorSrA
import Derived.Test.YthbnleoonldffaaGreatDoorQSfi
import Derived.Test.YthbnleoonldffaaGreatDoorAbB
import Derived.Test.YthbnleoonldffaaGreatDoorQVwp
import Derived.Test.YthbnleoonldffaaGreatDoorQClcR
import Derived.Test.YthbnleoonldffaaGreatDoorQHRow
import Derived.Test.YthbnleoonldffaaGreatDoorFitR
import Derived.Test.YthbnleoonldffaaGreatDoorQSmR
set_option linter.all false
namespace Go.Proofs.Tryz
open Go.Ab
set_option maxRecDepth 100000
set_option maxHeartbeats 8000000
theorem aAN (l:List At) (hl:l.length≤1000):Cf En 266 [.d (.sl (l.map At.c))] [] (.ref 1000000 0 l.length 5) [.arr 113 5 (l.map At.c) false]:=by
 refine cZ aW (fn:=Tryz.f266) (by kernel_rfl) rfl (by kernel_rfl) (by decide) (by simp) ?_
 cases l with
 | nil =>
   simp
   (repeat' first|contradiction|exact .ok|apply And.intro|intro _|(apply gc<;>simp+contextual))
   ·refine EndsS.mk _ (tE (i:=2) (m:=9) (ety:=113) (sz:=5) (by simp) ?_ (by decide) (by decide)) ?_
    ·simp
    ·exact ⟨_,[(1000000,9,.arr 113 5 [] false)],by simp; rfl,⟨by simp,by simp,by simp [aB,Blk.live],by simp⟩,by simp [List.zipIdx,aP],by simp [aB]⟩
   ·refine EndsS.mk _ (.refl _ _ _ _) ?_
    exact ⟨_,[(1000000,7,.arr 113 5 [] false)],by simp; rfl,⟨by simp,by simp,by simp [aB,Blk.live],by simp⟩,by simp [List.zipIdx,aP],by simp [aB]⟩
 | cons a l =>
   have hs:=eI (l.length+1) (by simp at hl; omega) 48 (by decide)
   have hs2:=eI l.length (by simp at hl; omega) 48 (by decide)
   have hall:∀ x∈l,x.c.length=5:=fun _ _=>rfl
   simp [hs,hs2,At.c]
   (repeat' first|contradiction|exact .ok|apply And.intro|intro _|(apply gc<;>simp+contextual))
   refine EndsS.mk _ (.refl _ _ _ _) ?_
   exact ⟨_,[(1000000,7,.arr 113 5 ((a::l).map At.c) false)],by simp; rfl,⟨by simp,by simp,by simp [aB,Blk.live,At.c],by simp⟩,by simp [List.zipIdx,aP]; rfl,by simp [aB]⟩
def CN (l:List At):List At:=cO (eS l)
theorem jD (l:List At) (hl:l.length≤12):Cf En 195 [.d (.sl (l.map At.c))] [] (.d (.sl ((CN l).map At.c))) []:=by
 refine aD aW (fn:=Tryz.f195) (by kernel_rfl) rfl (by kernel_rfl) (by decide) (by simp) ?_
 have h1:=aAN l (by omega)
 have h2:=PW l hl
 have h3:=aAt (eS l) (by rw [sO]; omega)
 have h4:=BM (eS l)
 rw [sO] at h3 h4
 unfold CN
 have htk:∀ z:List (List D),((cO (eS l)).map At.c++z).take (cO (eS l)).length=(cO (eS l)).map At.c:=fun z=>by rw [List.take_append_of_le_length (by simp),List.take_of_length_le (by simp)]
 simp
 (repeat' first|contradiction|exact .ok|apply And.intro|intro _|(apply gc<;>simp+contextual))
 refine zB [] h1 (by simp) (by simp) (by simp) (by simp) (by simp) (by simp) (by simp) ?_
 simp
 (repeat' first|contradiction|exact .ok|apply And.intro|intro _|(apply gc<;>simp+contextual))
 refine aK [6000] h2 (by simp) (by simp) (by simp) (by simp) (by simp) ?_
 simp
 (repeat' first|contradiction|exact .ok|apply And.intro|intro _|(apply gc<;>simp+contextual))
 refine aK [6000] h3 (by simp) (by simp) (by simp) (by simp) (by simp) ?_
 simp [htk]
 all_goals exact gz
def pH (o:Int) (n:Nat):Bool:=(o==22||o==23)&&n==2||o==24&&n==1
def rtB (x:Tb) (q:AV):List Blk:=[.var [.clo 263 [.ptr 1000000 0 0,.ptr 1000001 0 0,.ptr 1000002 0 0]],.var (x.c.map AV.d),.var [q]]
theorem yB {o:Int} {n:Nat} (h:pH o n=false):¬ ((o=22∨o=23)∧n=2)∧¬ (o=24∧n=1):=by
 unfold pH at h
 simp at h
 refine ⟨fun e=>?_,fun e=>?_⟩
 ·have:=h.1 e.1; omega
 ·have:=h.2 e.1; omega
theorem UV (x:Tb) (hx:x.ok) (ht:∀ c∈x.cols,c.t=1∨c.t=2∨c.t=3) (o c n g:Int) (t:List UInt8) (ks:List Ex) (q:Nat) (hq:(Ex.mk o c n t g ks).few q=true) (hs:pH o ks.length=false) :
  Cf Es 263 [(Ex.mk o c n t g ks).a,.ptr 1000000 0 0,.ptr 1000001 0 0,.ptr 1000002 0 0] (rtB x .nils) (.d (.bool (lN x (.mk o c n t g ks)))) (rtB x (.ref 1000003 0 1 5)++[.arr 113 5 [(eC (.mk o c n t g ks)).c] false]):=by
 have ha:=ZI x hx ht (.mk o c n t g ks) q hq
 obtain ⟨s1,s2⟩:=yB hs
 generalize lN x (.mk o c n t g ks)=B at *
 generalize eC (.mk o c n t g ks)=a at *
 refine cZ cF (fn:=Tryz.f263) (by kernel_rfl) rfl (by kernel_rfl) (by decide) (by simp) ?_
 by_cases o22:o=22
 ·have hl:¬ ks.length=2:=fun e=>s1 ⟨.inl o22,e⟩
  have hli:¬ (ks.length:Int)=2:=by omega
  subst o22
  simp [Ex.a,Ex.c,aC,Tb.a,Tb.c,At.a,rtB,hl,hli] at ha ⊢
  (repeat' first|contradiction|exact .ok|apply And.intro|intro _|(apply gc<;>simp+contextual[hl,hli]))
  refine aA ha (by simp) ?_
  simp [At.c]
  (repeat' first|contradiction|exact .ok|apply And.intro|intro _|(apply gc<;>simp+contextual))
  exact EndsS.of [1000000,1000001,1000002,57] _ rfl (by simp; rfl) (by decide) rfl (by apply aBi<;>simp [aB,Blk.live,rtB,Tb.c,At.c]) (by simp [aB])
 by_cases o23:o=23
 ·have hl:¬ ks.length=2:=fun e=>s1 ⟨.inr o23,e⟩
  have hli:¬ (ks.length:Int)=2:=by omega
  subst o23
  simp [Ex.a,Ex.c,aC,Tb.a,Tb.c,At.a,rtB,hl,hli] at ha ⊢
  (repeat' first|contradiction|exact .ok|apply And.intro|intro _|(apply gc<;>simp+contextual[hl,hli]))
  refine aA ha (by simp) ?_
  simp [At.c]
  (repeat' first|contradiction|exact .ok|apply And.intro|intro _|(apply gc<;>simp+contextual))
  exact EndsS.of [1000000,1000001,1000002,57] _ rfl (by simp; rfl) (by decide) rfl (by apply aBi<;>simp [aB,Blk.live,rtB,Tb.c,At.c]) (by simp [aB])
 by_cases o24:o=24
 ·have hl:¬ ks.length=1:=fun e=>s2 ⟨o24,e⟩
  have hli:¬ (ks.length:Int)=1:=by omega
  subst o24
  simp [Ex.a,Ex.c,aC,Tb.a,Tb.c,At.a,rtB,hl,hli] at ha ⊢
  (repeat' first|contradiction|exact .ok|apply And.intro|intro _|(apply gc<;>simp+contextual[hl,hli]))
  refine aA ha (by simp) ?_
  simp [At.c]
  (repeat' first|contradiction|exact .ok|apply And.intro|intro _|(apply gc<;>simp+contextual))
  exact EndsS.of [1000000,1000001,1000002,57] _ rfl (by simp; rfl) (by decide) rfl (by apply aBi<;>simp [aB,Blk.live,rtB,Tb.c,At.c]) (by simp [aB])
 simp [Ex.a,Ex.c,aC,Tb.a,Tb.c,At.a,rtB,o22,o23,o24] at ha ⊢
 (repeat' first|contradiction|exact .ok|apply And.intro|intro _|(apply gc<;>simp+contextual[o22,o23,o24]))
 refine aA ha (by simp) ?_
 simp [At.c]
 (repeat' first|contradiction|exact .ok|apply And.intro|intro _|(apply gc<;>simp+contextual))
 exact EndsS.of [1000000,1000001,1000002,57] _ rfl (by simp; rfl) (by decide) rfl (by apply aBi<;>simp [aB,Blk.live,rtB,Tb.c,At.c]) (by simp [aB])
def BF (x:Tb) (e:Ex):AV:=if lN x e=true then .tup [.d (.sl [(eC e).c]),.d (.bool true)] else .tup [.d (.sl []),.d (.bool false)]
theorem aCE (a:At):CN [a]=[a]:=by simp [CN,eS,qN,nQ,cO]
theorem sN (x:Tb) (hx:x.ok) (ht:∀ c∈x.cols,c.t=1∨c.t=2∨c.t=3) (o c n g:Int) (t:List UInt8) (ks:List Ex) (q:Nat) (hq:(Ex.mk o c n t g ks).few q=true) (hs:pH o ks.length=false) :
  Cf Es 193 [x.a,(Ex.mk o c n t g ks).a] [] (BF x (.mk o c n t g ks)) []:=by
 have hw:=UV x hx ht o c n g t ks q hq hs
 have hu:=gL (jD [eC (.mk o c n t g ks)] (by simp))
 rw [aCE] at hu
 unfold BF
 have hel:=Ex.clen (.mk o c n t g ks)
 have het:=Ex.ctake (.mk o c n t g ks)
 generalize lN x (.mk o c n t g ks)=B at *
 generalize eC (.mk o c n t g ks)=a at *
 generalize Ex.mk o c n t g ks=e at *
 refine aD cF (fn:=Tryz.f193) (by kernel_rfl) rfl (by kernel_rfl) (by decide) (by simp) ?_
 simp [Ex.a,Tb.a,Tb.c,hel,het]
 (repeat' first|contradiction|exact .ok|apply And.intro|intro _|(apply gc<;>simp+contextual))
 simp [Ex.a,rtB,Tb.c] at hw
 refine bS [7,2,6] 1 hw (by simp) (by decide) (by simp) (by decide) (by decide) (by simp) (by simp [Tb.c]) (by simp) ?_
 cases B with
 | false =>
   simp
   all_goals exact gz
 | true =>
   simp
   (repeat' first|contradiction|exact .ok|apply And.intro|intro _|(apply gc<;>simp+contextual))
   refine aA hu (by simp) ?_
   simp
   all_goals exact gz
def pB (S:List Tb) (l:List Nat) (F:Int→Ex) (A:Nat→List At):List Int→Bool×(Nat→List At)
 | [c]=>if (gP S 0 l c).2.2=true then
   (if lN (aV S ((l[(gP S 0 l c).1.toNat]?).getD 0)) (F ((gP S 0 l c).2.1 - c))=true then (true,bM A (gP S 0 l c).1.toNat (A (gP S 0 l c).1.toNat++[eC (F ((gP S 0 l c).2.1 - c))])) else (false,A))
   else (false,A)
 | _=>(false,A)
def mH (S:List Tb) (l:List Nat) (e:Ex) (A:Nat→List At):Bool×(Nat→List At):=pB S l e.shift A e.cols
mutual
def bW (S:List Tb) (l:List Nat):Ex→(Nat→List At)→Bool×(Nat→List At)
 | .mk o c n t g ks,A=>if pH o ks.length=true then (if (c==0&&(n==0&&(t==[]&&g==0)))=true then cY S l ks A else (false,A)) else mH S l (.mk o c n t g ks) A
def cY (S:List Tb) (l:List Nat):List Ex→(Nat→List At)→Bool×(Nat→List At)
 | [],A=>(true,A)
 | e::es,A=>if (bW S l e A).1=true then cY S l es (bW S l e A).2 else (false,(bW S l e A).2)
end
def oO (S:List Tb) (l:List Nat):List Ex→(Nat→List At)→Nat→Int
 | [],_,_=>-1
 | e::es,A,i=>if (bW S l e A).1=true then oO S l es (bW S l e A).2 (i+1) else i
theorem xS (S:List Tb) (l:List Nat):∀ (ks:List Ex) (A:Nat→List At) (i:Nat),decide (0≤oO S l ks A i)=!(cY S l ks A).1
 | [],A,i=>by simp [oO,cY]
 | e::es,A,i=>by
   rw [oO,cY]
   by_cases h:(bW S l e A).1=true
   ·rw [if_pos h,if_pos h]; exact xS S l es _ (i+1)
   ·rw [if_neg h,if_neg h]
    have:(0:Int)≤(i:Int):=by omega
    simp [this]
theorem TS (S:List Tb) (l:List Nat) (e:Ex) (A:Nat→List At) (j:Nat):((mH S l e A).2 j).length≤(A j).length+1:=by
 unfold mH pB
 split
 ·split
  ·split
   ·simp only [bM]
    split
    ·rename_i h; subst h; simp
    ·omega
   ·simp
  ·simp
 ·simp
theorem TT (e:Ex):1≤e.nodes:=by cases e; rw [Ex.nodes]; omega
mutual
theorem iY (S:List Tb) (l:List Nat):∀ (e:Ex) (A:Nat→List At) (j:Nat),((bW S l e A).2 j).length≤(A j).length+e.nodes
 | .mk o c n t g ks,A,j=>by
   rw [bW,Ex.nodes]
   split
   ·split
    ·have:=nK S l ks A j; omega
    ·simp
   ·have:=TS S l (.mk o c n t g ks) A j; omega
theorem nK (S:List Tb) (l:List Nat):∀ (ks:List Ex) (A:Nat→List At) (j:Nat),((cY S l ks A).2 j).length≤(A j).length+aT ks
 | [],A,j=>by simp [cY,aT]
 | e::es,A,j=>by
   have h1:=iY S l e A j
   rw [cY,aT]
   split
   ·have:=nK S l es (bW S l e A).2 j; omega
   ·simp only; omega
end
def GJ (S:List Tb) (l:List Nat) (ks:List Ex) (A:Nat→List At) (y:Nat×(Nat→List At)):Prop:=y.1≤ks.length∧cY S l ks A=cY S l (ks.drop y.1) y.2∧oO S l ks A 0=oO S l (ks.drop y.1) y.2 y.1
theorem qV {S:List Tb} {l:List Nat} {ks:List Ex} {A:Nat→List At} {y:Nat×(Nat→List At)} (h:GJ S l ks A y) (hl:y.1<ks.length) :
  ((bW S l ks[y.1] y.2).1=true→GJ S l ks A (y.1+1,(bW S l ks[y.1] y.2).2))∧((bW S l ks[y.1] y.2).1=false→cY S l ks A=(false,(bW S l ks[y.1] y.2).2)∧oO S l ks A 0=y.1):=by
 obtain ⟨i,B⟩:=y
 obtain ⟨h1,h2,h3⟩:=h
 simp only at hl h1 h2 h3 ⊢
 rw [List.drop_eq_getElem_cons hl] at h2 h3
 rw [cY] at h2
 rw [oO] at h3
 refine ⟨fun hb=>?_,fun hb=>?_⟩
 ·rw [if_pos hb] at h2 h3
  exact ⟨by simp only; omega,h2,h3⟩
 ·rw [if_neg (by rw [hb]; simp)] at h2 h3
  exact ⟨h2,h3⟩
theorem vL {S:List Tb} {l:List Nat} {ks:List Ex} {A B:Nat→List At} (h:GJ S l ks A (ks.length,B)):cY S l ks A=(true,B)∧oO S l ks A 0=-1:=by
 obtain ⟨_,h2,h3⟩:=h
 simp only [List.drop_length] at h2 h3
 rw [cY] at h2
 rw [oO] at h3
 exact ⟨h2,h3⟩
theorem GK {S:List Tb}:∀ {l:List Nat} {c:Int} {i:Nat},(gP S i l c).2.2=true→∃ k:Nat,(gP S i l c).1=((i+k:Nat):Int)∧k<l.length∧0≤(gP S i l c).2.1∧(gP S i l c).2.1≤c
 | [],c,i,h=>by simp [gP] at h
 | k::r,c,i,h=>by
   rw [gP] at h ⊢
   split at h
   ·rename_i hc
    rw [if_pos hc]
    simp only [decide_eq_true_eq] at h
    exact ⟨0,by simp,by simp,h,Int.le_refl _⟩
   ·rename_i hc
    rw [if_neg hc]
    obtain ⟨k',h1,h2,h3,h4⟩:=GK h
    refine ⟨k'+1,by rw [h1]; congr 1; omega,by simp; omega,h3,by omega⟩
mutual
theorem nL:∀ (e:Ex) (q:Nat) (d:Int),(e.shift d).few q=e.few q
 | .mk o c n t g ks,q,d=>by
   rw [Ex.shift,Ex.few,Ex.few,uA ks (q+1) d,fM,List.length_map]
theorem uA:∀ (l:List Ex) (q:Nat) (d:Int),fL (eE l d) q=fL l q
 | [],q,d=>by rw [eE]
 | e::es,q,d=>by rw [eE,fL,fL,nL e q d,uA es q d]
end
theorem QU {k:Ex} {z:Int}:∀ {ks:List Ex},k∈ks→k.has z→eW ks z
 | [],h,_=>by cases h
 | e::es,h,hz=>by
   rw [eW]
   rcases List.mem_cons.1 h with rfl | h
   ·exact .inl hz
   ·exact .inr (QU h hz)
theorem AA {o c n g z:Int} {t:List UInt8} {ks:List Ex} {k:Ex} (hk:k∈ks) (hz:z∈k.cols):z∈(Ex.mk o c n t g ks).cols:=by
 rw [lE] at hz ⊢
 rw [Ex.has]
 exact .inr (QU hk hz)
theorem iZ {ks:List Ex} {i:Nat} (h:i<ks.length):aT (ks.drop i)=ks[i].nodes+aT (ks.drop (i+1)):=by
 rw [List.drop_eq_getElem_cons h,aT]
theorem JL {S:List Tb}:∀ {path:List Int} {k:Nat} {l:List Nat},HS S k path=some l→∀ i,i<path.length→∃ m,(k::l)[i+1]?=some m∧∃ q,(k::l)[i]?=some q∧eU S q ((path[i]?).getD 0)=some m
 | [],_,_,_,i,hi=>by simp at hi
 | f::r,k,l,h,i,hi=>by
   rw [HS] at h
   split at h
   ·rename_i m hm
    rw [Option.map_eq_some_iff] at h
    obtain ⟨l',h1,rfl⟩:=h
    cases i with
    | zero=>exact ⟨m,by simp,k,by simp,by simpa using hm⟩
    | succ i =>
      obtain ⟨m',a1,q,a2,a3⟩:=JL h1 i (by simpa using hi)
      exact ⟨m',by simpa using a1,q,by simpa using a2,by simpa using a3⟩
   ·cases h
theorem lD {S:List Tb} {v:Vw} {l:List Nat} (h:dY S v=some l) (i:Nat) (hi:i<v.path.length):∃ m q,l[i+1]?=some m∧l[i]?=some q∧eU S q v.path[i]=some m:=by
 unfold dY at h
 split at h
 ·rw [Option.map_eq_some_iff] at h
  obtain ⟨l',h1,rfl⟩:=h
  obtain ⟨m,a1,q,a2,a3⟩:=JL h1 i hi
  rw [List.getElem?_eq_getElem hi,Option.getD_some] at a3
  exact ⟨m,q,a1,a2,a3⟩
 ·cases h
structure vZ (S:List Tb) (T:Nat→List (List V)):Prop where
 fill:oQ S
 key:∀ x∈S,uN x
 tg:∀ x∈S,∀ g∈x.fk,0≤iB S g∧lG S g<S.length
 len:∀ k,(T k).length≤1000
 row:RX S T S.length
def eO (T:Nat→List (List V)) (k n:Nat):List V:=((T k)[n]?).getD []
def nxR (S:List Tb) (T:Nat→List (List V)) (k f n:Nat):Nat:=match (aV S k).fk[f]? with
 | some g=>(OW (fU (aV S (lG S g)).pr).toNat (fU g.cols).toNat (T (lG S g)) (eO T k n)).toNat
 | none=>0
def pI (S:List Tb) (T:Nat→List (List V)) (l:List Nat) (path:List Int) (n:Nat):Nat→List V×Nat
 | 0=>(eO T ((l[0]?).getD 0) n,n)
 | i+1=>((pI S T l path n i).1++eO T ((l[i+1]?).getD 0) (nxR S T ((l[i]?).getD 0) ((path[i]?).getD 0).toNat (pI S T l path n i).2),nxR S T ((l[i]?).getD 0) ((path[i]?).getD 0).toNat (pI S T l path n i).2)
theorem aAm {a b:Int} (h:kJ a=kJ b):a=b:=by
 unfold kJ at h
 exact congrArg V.n h
theorem aEh {S:List Tb} {T:Nat→List (List V)} (h:vZ S T) {k n f:Nat} {g:Fk} (hk:k<S.length) (hg:(aV S k).fk[f]?=some g) (hn:n<(T k).length) :
  ∃ q:Nat,OW (fU (aV S (lG S g)).pr).toNat (fU g.cols).toNat (T (lG S g)) (eO T k n)=(q:Int)∧q<(T (lG S g)).length∧nxR S T k f n=q∧(eO T k n)[(fU g.cols).toNat]?=some (kJ (1+q)):=by
 have hx:aV S k∈S:=by unfold aV; rw [List.getElem?_eq_getElem hk]; exact List.getElem_mem hk
 have hgm:=List.mem_of_getElem? hg
 have hr:(T k)[n]?=some (eO T k n):=by unfold eO; rw [List.getElem?_eq_getElem hn]; rfl
 have hok:=h.row k hk n _ hr
 obtain ⟨q,f1,f2⟩:=hok.fk g hgm
 obtain ⟨h0,hto⟩:=h.tg _ hx g hgm
 have hxo:aV S (lG S g)∈S:=by unfold aV; rw [List.getElem?_eq_getElem hto]; exact List.getElem_mem hto
 obtain ⟨c,c1,c2,_⟩:=(h.key _ hx).fk g hgm
 obtain ⟨p,p1,p2⟩:=(h.key _ hxo).pr
 have hp0:(fU (aV S (lG S g)).pr).toNat=p:=by rw [p1]; rfl
 have hc0:(fU g.cols).toNat=c:=by rw [c1]; rfl
 have hZ:OW (fU (aV S (lG S g)).pr).toNat (fU g.cols).toNat (T (lG S g)) (eO T k n)=(q:Int):=by
  unfold OW
  rw [hc0,hp0,if_pos (by rw [hok.len]; exact c2)]
  rw [hc0] at f1
  have hrq:(T (lG S g))[q]?=some ((T (lG S g))[q]'f2):=List.getElem?_eq_getElem f2
  have hh:∀ i y,(T (lG S g))[i]?=some y→xI p c (eO T k n) y=decide (i=q):=fun i y hy=>by
   have hoq:=h.row _ hto i y hy
   have h1:=hoq.pr
   rw [hp0] at h1
   unfold xI
   rw [h1,f1]
   have hlt:p<y.length:=by rw [hoq.len]; exact p2
   simp only [hlt,decide_true,Option.getD_some,Bool.true_and]
   rw [Bool.eq_iff_iff]
   simp only [Bool.and_eq_true,V.beq_iff,decide_eq_true_eq]
   constructor
   ·rintro ⟨e,_⟩
    have:=aAm e
    omega
   ·rintro rfl
    exact ⟨by rw [Int.add_comm],rfl⟩
  have:=uJ (p:=xI p c (eO T k n)) (k:=0) hrq (by rw [hh q _ hrq]; simp) (fun i y hi hy=>by rw [hh i y hy]; simp; omega)
  rw [this]; simp
 refine ⟨q,hZ,f2,?_,f1⟩
 unfold nxR
 rw [hg]
 simp only
 rw [hZ]; simp
theorem uO {S:List Tb} {T:Nat→List (List V)} (h:vZ S T) {l:List Nat} {path:List Int} {n i k m:Nat} (hi:i<path.length) (hk:l[i]?=some k) (hm:l[i+1]?=some m) (hst:eU S k path[i]=some m) (hkS:k<S.length) (hr:(pI S T l path n i).2<(T k).length) :
  ∃ (f q:Nat) (g:Fk),path[i]=(f:Int)∧(aV S k).fk[f]?=some g∧iB S g=(m:Int)∧lG S g=m∧OW (fU (aV S m).pr).toNat (fU g.cols).toNat (T m) (eO T k (pI S T l path n i).2)=(q:Int)∧q<(T m).length∧(eO T k (pI S T l path n i).2)[(fU g.cols).toNat]?=some (kJ (1+q)) ∧
    pI S T l path n (i+1)=((pI S T l path n i).1++eO T m q,q):=by
 unfold eU at hst
 split at hst
 ·rename_i h0
  split at hst
  ·rename_i g hg
   split at hst
   ·rename_i ht
    cases hst
    obtain ⟨q,e1,e2,e3,e4⟩:=aEh h hkS hg hr
    refine ⟨path[i].toNat,q,g,by omega,hg,by unfold lG; omega,rfl,e1,e2,e4,?_⟩
    rw [pI,hk,hm,List.getElem?_eq_getElem hi]
    simp only [Option.getD_some]
    rw [e3]
   ·cases hst
  ·cases hst
 ·cases hst
theorem LF {S:List Tb} {T:Nat→List (List V)} (h:vZ S T) {v:Vw} {l:List Nat} (hc:dY S v=some l) {n k0:Nat} (h0:l[0]?=some k0) (hlt:∀ k∈l,k<S.length) (hn:n<(T k0).length):∀ i,i≤v.path.length→∃ k,l[i]?=some k∧(pI S T l v.path n i).2<(T k).length∧(pI S T l v.path n i).1.length≤20*(i+1):=by
 have hrow:∀ k r,k<S.length→r<(T k).length→(eO T k r).length≤20:=fun k r hk hr=>by
  have hx:aV S k∈S:=by unfold aV; rw [List.getElem?_eq_getElem hk]; exact List.getElem_mem hk
  have:=(h.row k hk r (eO T k r) (by unfold eO; rw [List.getElem?_eq_getElem hr]; rfl)).len
  rw [this]
  exact h.fill.cols _ hx
 intro i
 induction i with
 | zero =>
   intro _
   refine ⟨k0,h0,hn,?_⟩
   rw [pI,h0,Option.getD_some]
   exact hrow k0 n (hlt _ (List.mem_of_getElem? h0)) hn
 | succ i ih =>
   intro hi
   obtain ⟨k,hk,hr,hl⟩:=ih (by omega)
   obtain ⟨m,k',hm,hk2,hst⟩:=lD hc i (by omega)
   rw [hk] at hk2
   cases hk2
   obtain ⟨f,q,g,_,_,_,_,_,hq,_,hnx⟩:=uO h (n:=n) (by omega) hk hm hst (hlt _ (List.mem_of_getElem? hk)) hr
   refine ⟨m,hm,by rw [hnx]; exact hq,?_⟩
   rw [hnx]
   simp only
   have:=hrow m q (hlt _ (List.mem_of_getElem? hm)) hq
   rw [List.length_append]
   omega
structure Ag where
 f:Int
 e:Ex
def Ag.c (a:Ag):List D:=.int .i64 a.f::a.e.c
inductive Qy where
 | mk (op:Int) (tb:List UInt8) (kd:Int) (al:Bool) (co:Ex) (es:List Ex) (gs:List Ag) (ts:List Int) (rs:List (List V)) (ks:List Qy)
mutual
def Qy.c:Qy→List D
 | .mk op tb kd al co es gs ts rs ks=>.int .i64 op::.str tb::.int .i64 kd::.bool al::(co.c++[.sl (es.map Ex.c),.sl (gs.map Ag.c),.sl (aG ts),.sl (rs.map fun r=>[D.sl (r.map V.c)]),.sl (vW ks)])
def vW:List Qy→List (List D)
 | []=>[]
 | q::qs=>q.c::vW qs
end
theorem aM:∀ l:List Qy,vW l=l.map Qy.c
 | []=>rfl
 | q::qs=>by rw [vW,aM qs]; rfl
def Qy.a (q:Qy):AV:=.agg (q.c.map AV.d)
def Qy.kids:Qy→List Qy | .mk _ _ _ _ _ _ _ _ _ ks=>ks
theorem Qy.clen (q:Qy):q.c.length=15:=by
 obtain ⟨op,tb,kd,al,co,es,gs,ts,rs,ks⟩:=q
 have:=Ex.clen co
 rw [Qy.c]
 simp [this]
theorem Qy.ctake (q:Qy):(q.c.map AV.d).take 15=q.c.map AV.d:=List.take_of_length_le (by simp [Qy.clen])
theorem Qy.kid_lt {q k:Qy} (h:k∈q.kids):SizeOf.sizeOf k<SizeOf.sizeOf q:=by
 obtain ⟨op,tb,kd,al,co,es,gs,ts,rs,ks⟩:=q
 have:=List.sizeOf_lt_of_mem (show k∈ks from h)
 simp only [Qy.mk.sizeOf_spec]
 omega
def wr (n:Int):Int:=IntKind.i64.wrap n
def aCu {α:Type} (f:α→Int):Int→List α→Int
 | a,[]=>a
 | a,x::l=>aCu f (wr (a+f x)) l
mutual
def Qy.size:Qy→Int
 | .mk op _ _ _ co es gs _ rs ks=>jS (aCu (fun r:List V=>(r.length:Int)) (aCu (fun a:Ag=>a.e.size) (aCu Ex.size (if op=3∨op=5 then wr (1+co.size) else 1) (if op=4∨op=10 then es else [])) (if op=10 then gs.filter (fun a=>a.f != 1) else [])) rs) ks
def jS:Int→List Qy→Int
 | a,[]=>a
 | a,q::qs=>jS (wr (a+q.size)) qs
end
mutual
def Qy.dep:Qy→Nat
 | .mk _ _ _ _ _ _ _ _ _ ks=>iS 0 ks+1
def iS:Nat→List Qy→Nat
 | a,[]=>a
 | a,q::qs=>iS (max a q.dep) qs
end
def exZ0:Ex:=.mk 0 0 0 [] 0 []
def zeX (e:Ex):Bool:=e.eq exZ0
end Go.Proofs.Tryz
