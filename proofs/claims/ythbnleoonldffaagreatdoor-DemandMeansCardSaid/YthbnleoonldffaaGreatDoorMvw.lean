import Derived.Test.YthbnleoonldffaaGreatDoorQChq
import Derived.Test.YthbnleoonldffaaGreatDoorQRwc
set_option linter.all false
namespace Go.Proofs.Tryz
open Go.Ab
set_option maxRecDepth 100000
set_option maxHeartbeats 8000000
def mL (L:List Int) (S:List Tb):Nat→Nat→Nat→List Int×Nat
 | 0,_,i=>([],i)
 | m+1,k,i=>if 0<(aV S k).fk.length then (if aU L i 2=1 then (aU L (i+1) (aV S k).fk.length::(mL L S m ((eU S k (aU L (i+1) (aV S k).fk.length)).getD 0) (i+2)).1,(mL L S m ((eU S k (aU L (i+1) (aV S k).fk.length)).getD 0) (i+2)).2) else ([],i+1)) else ([],i)
theorem KL {S:List Tb} (hd:VR S) {k:Nat} (hk:k<S.length) {f:Int} (h0:0≤f) (hf:f<(aV S k).fk.length):∃ m,eU S k f=some m∧m<k:=by
 have hlt:f.toNat<(aV S k).fk.length:=by omega
 have:=hd k hk _ (List.getElem_mem hlt)
 refine ⟨lG S (aV S k).fk[f.toNat],?_,this.2⟩
 unfold eU
 rw [if_pos h0,List.getElem?_eq_getElem hlt]
 simp only
 rw [if_pos this.1]
theorem oS (L:List Int) {S:List Tb} (hd:VR S):∀ m k i,k<m→k<S.length→(∃ l,HS S k (mL L S m k i).1=some l)∧(mL L S m k i).1.length≤k∧(mL L S m k i).2≤i+1+2*k
 | 0,_,_,h,_=>absurd h (by omega)
 | m+1,k,i,hm,hk=>by
   unfold mL
   by_cases h0:0<(aV S k).fk.length
   ·rw [if_pos h0]
    by_cases h1:aU L i 2=1
    ·rw [if_pos h1]
     have hn:=bG L (i+1) (n:=(aV S k).fk.length) (by omega)
     generalize aU L (i+1) (aV S k).fk.length=f at *
     obtain ⟨k',hs,hk'⟩:=KL hd hk hn.1 hn.2
     rw [hs,Option.getD_some]
     obtain ⟨⟨l,i1⟩,i2,i3⟩:=oS L hd m k' (i+2) (by omega) (by omega)
     refine ⟨⟨k'::l,?_⟩,?_,?_⟩
     ·rw [HS,hs]; simp only; rw [i1]; rfl
     ·simp; omega
     ·simp only; omega
    ·rw [if_neg h1]
     exact ⟨⟨[],by rw [HS]⟩,by simp,by simp only; omega⟩
   ·rw [if_neg h0]
    exact ⟨⟨[],by rw [HS]⟩,by simp,by simp only; omega⟩
def KM (L:List Int) (P:List Int) (i:Nat):Nat:=if aU L i 3=0∧P=[] then 1 else (aU L i 3).toNat
def exZ:Ex:=.mk 0 0 0 [] 0 []
def lL (L:List Int) (S:List Tb) (l:List Nat) (i:Nat):Nat→Ex×Nat
 | 0=>(exZ,i)
 | 1=>dN L S l i
 | n+2=>(.mk (22+aU L (dN L S l (lL L S l i (n+1)).2).2 2) 0 0 [] 0 [(lL L S l i (n+1)).1,(dN L S l (lL L S l i (n+1)).2).1],(dN L S l (lL L S l i (n+1)).2).2+1)
def DX (S:List Tb) (k:Nat):List UInt8:=(aV S k).n
def uH (L:List Int) (S:List Tb) (a:Nat):Vw×Nat :=
 let k0:=(aU L a S.length).toNat
 let P:=mL L S S.length k0 (a+1)
 let l:=(dY S ⟨DX S k0,P.1,[]⟩).getD []
 let n:=KM L P.1 P.2
 let e:=lL L S l (P.2+1) n
 (⟨DX S k0,P.1,if 0<n then [e.1] else []⟩,e.2)
structure PAt (L:List Int) (S:List Tb) (k0 i0:Nat) (y:List Int×Nat×Nat×Nat):Prop where
 k:y.2.1<S.length
 m:y.2.1<y.2.2.2
 le:y.1.length+y.2.1≤k0
 i:y.2.2.1≤i0+2*y.1.length
 eq:mL L S S.length k0 i0=(y.1++(mL L S y.2.2.2 y.2.1 y.2.2.1).1,(mL L S y.2.2.2 y.2.1 y.2.2.1).2)
def wX (j:Nat) (e:Ex):List AV:=if j=0 then [.d (.int .i64 0),.d (.int .i64 0),.d (.int .i64 0),.d (.str []),.d (.int .i64 0),.nils] else e.c.map AV.d
theorem aDR (L:List Int) (a:Nat) (ha:a≤500000) (S:List Tb) (hl:S.length≤1000) (h0:0<S.length) (hS:∀ x∈S,pG x) (hd:VR S) (hnm:∀ k,k<S.length→lW S (DX S k)=k) :
  Cf En 19 [.ptr 1000000 0 0,aR S] [aS L a] (uH L S a).1.a [aS L (uH L S a).2]:=by
 have hnx:=bG L a (n:=S.length) (by omega)
 have htx:=dM L a (by omega) S.length (by omega) (by omega)
 obtain ⟨k0,hk0⟩:∃ k:Nat,aU L a S.length=k:=⟨(aU L a S.length).toNat,by omega⟩
 unfold uH
 rw [hk0] at htx hnx ⊢
 simp only [Int.toNat_natCast]
 have hk:k0<S.length:=by omega
 obtain ⟨⟨lc,hlc⟩,hpl,hpi⟩:=oS L hd S.length k0 (a+1) hk hk
 obtain ⟨P,i1,hP⟩:∃ P i1,mL L S S.length k0 (a+1)=(P,i1):=⟨_,_,rfl⟩
 rw [hP] at hlc hpl hpi
 have hch:dY S ⟨DX S k0,P,[]⟩=some (k0::lc):=by
  unfold dY
  have h1:(0:Int)≤lW S (DX S k0):=by rw [hnm k0 hk]; omega
  simp only
  rw [if_pos h1,hnm k0 hk,Int.toNat_natCast,hlc]
  rfl
 have htab:∀ k (h:k<S.length),aV S k=S[k]:=fun k h=>by unfold aV; rw [List.getElem?_eq_getElem h]; rfl
 have htb:DX S k0=S[k0].n:=by unfold DX; rw [htab k0 hk]
 have hkz:(0:Int)≤k0:=by omega
 have hpr:∀ i:Nat,i≤800000→Cf En 51 [.ptr 1000000 0 0,aR S,(⟨DX S k0,P,[]⟩:Vw).a] [aS L i] (dN L S (k0::lc) i).1.a [aS L (dN L S (k0::lc) i).2]:=fun i hi=>aDN L i hi S hl hS _ (by simp only at hpl ⊢; omega) (k0::lc) hch (by have:=(dI hch).2; simp only at this hpl; omega)
 simp only [hP,hch,Option.getD_some]
 have hcond1:=aBT L S (k0::lc)
 have hC0:lL L S (k0::lc) (i1+1) 0=(exZ,i1+1):=rfl
 have hC1:lL L S (k0::lc) (i1+1) 1=dN L S (k0::lc) (i1+1):=rfl
 have hC2:lL L S (k0::lc) (i1+1) 2=(.mk (22+aU L (dN L S (k0::lc) (dN L S (k0::lc) (i1+1)).2).2 2) 0 0 [] 0 [(dN L S (k0::lc) (i1+1)).1,(dN L S (k0::lc) (dN L S (k0::lc) (i1+1)).2).1],(dN L S (k0::lc) (dN L S (k0::lc) (i1+1)).2).2+1):=rfl
 generalize lL L S (k0::lc) (i1+1)=C at *
 generalize dN L S (k0::lc)=W at *
 generalize DX S k0=tb at *
 obtain ⟨cn,hcn⟩:∃ cn,cn=KM L P i1:=⟨_,rfl⟩
 rw [← hcn]
 simp only at hpl hpi
 refine aD aW (fn:=Tryz.f19) (by kernel_rfl) rfl (by kernel_rfl) (by decide) (by simp) ?_
 simp [aR,aS]
 (repeat' first|contradiction|exact .ok|apply And.intro|intro _|(apply gc<;>simp+contextual))
 refine aK [1000000] htx (by simp) (by simp) (by simp) (by simp [aS]) (by simp) ?_
 simp [aS,hk,Tb.c,← htb]
 (repeat' first|contradiction|exact .ok|apply And.intro|intro _|(apply gc<;>simp+contextual))
 refine FW aW (by decide) (fun y:List Int×Nat×Nat×Nat=>{ s:=cG [(0,.ptr 1000000 0 0),(3,.ptr 3 0 0),(4,.ptr 4 0 0),(5,.d (.int .i64 y.2.1)),(6,.ptr 6 0 0)],b:=cE [(1000000,1000000,aS L y.2.2.1),(3,3,.var [.d (.sl (S.map Tb.c))]),(4,4,.var [.d (.str []),.nils,.nils]),(6,6,.var [.d (.str tb),.ref 908 0 y.1.length 1,.nils]),(908,908,.arr 3 1 (aG y.1) false)] })
  (PAt L S k0 (a+1)) (fun y=>y.2.1) ([],k0,a+1,S.length) ⟨hk,hk,by simp,by simp,by simp⟩ 0
  { s:=cG [(0,.ptr 1000000 0 0),(3,.ptr 3 0 0),(4,.ptr 4 0 0),(6,.ptr 6 0 0)],b:=cE [(1000000,1000000,aS L i1),(3,3,.var [.d (.sl (S.map Tb.c))]),(4,4,.var [.d (.str []),.nils,.nils]),(6,6,.var [.d (.str tb),.ref 908 0 P.length 1,.nils]),(908,908,.arr 3 1 (aG P) false)] }
  ((tL 6 908 3 1 1 (cells:=[.d (.str tb),.nils,.nils]) (by simp) rfl (by simp) (by decide) (by decide)).trans (aE _ [(1000000,1000000,_),(3,3,_),(4,4,_),(6,6,_),(908,908,_)] ⟨by simp,by simp,by simp [aB,Blk.live,bM,aS,aG],bT⟩ (by simp [aB]))) ?_ ?_
 ·rintro ⟨p,k,i,m⟩ ⟨y1,y2,y3,y4,y5⟩
  simp only at y1 y2 y3 y4 y5
  obtain ⟨m,rfl⟩:∃ m',m=m'+1:=⟨m - 1,by omega⟩
  rw [hP] at y5
  simp only [mL] at y5
  have hxm:=hS _ (List.getElem_mem y1)
  have hst:=KL hd y1 (f:=aU L (i+1) (aV S k).fk.length)
  have hta:=BI S hl (fun x hx=>(hS x hx).ok) y1 (aU L (i+1) (aV S k).fk.length)
  rw [htab k y1] at y5 hst hta
  obtain ⟨x,hx⟩:∃ x,x=S[k]:=⟨_,rfl⟩
  have hgx:∀ h,S[k]'h=x:=fun _=>hx.symm
  rw [← hx] at y5 hst hta hxm
  have hfk:=hxm.ok.fk
  by_cases hf:0<x.fk.length
  ·have hfi:(0:Int)<x.fk.length:=by omega
   rw [if_pos hf] at y5
   have n2:=dM L i (by omega) 2 (by omega) (by omega)
   by_cases h2:aU L i 2=1
   ·rw [if_pos h2] at y5
    have hn:=bG L (i+1) (n:=x.fk.length) (by omega)
    have nf:=dM L (i+1) (by omega) x.fk.length (by omega) (by omega)
    obtain ⟨k',hs,hk'⟩:=hst hn.1 hn.2
    rw [hs] at y5 hta
    simp only [Option.getD_some] at y5 hta
    generalize aU L (i+1) x.fk.length=f at *
    have htk:(aG p).take p.length=aG p:=List.take_of_length_le (by simp [aG])
    have hil:(aG p).length=p.length:=by simp [aG]
    have hap:aG (p++[f])=aG p++[[.int .i64 f]]:=by simp [aG]
    have hpn:(p++[f]).length=p.length+1:=by simp
    simp [aS,y1,hgx,Tb.c,hf,hfi]
    (repeat' first|contradiction|exact .ok|apply And.intro|intro _|(apply gc<;>simp+contextual[hf,hfi]))
    refine aK [1000000] n2 (by simp) (by simp) (by simp) (by simp [aS]) (by simp) ?_
    simp [aS,h2]
    (repeat' first|contradiction|exact .ok|apply And.intro|intro _|(apply gc<;>simp+contextual[h2]))
    simp [y1,hgx,Tb.c]
    (repeat' first|contradiction|exact .ok|apply And.intro|intro _|(apply gc<;>simp+contextual))
    refine aK [1000000] nf (by simp) (by simp) (by simp) (by simp [aS]) (by simp) ?_
    simp [aS,htk,hil,eI p.length (by omega) 8 (by decide),eI (p.length+1) (by omega) 8 (by decide)]
    (repeat' first|contradiction|exact .ok|apply And.intro|intro _|(apply gc<;>simp+contextual))
    refine aA hta (by simp [aR]) ?_
    simp
    (repeat' first|contradiction|exact .ok|apply And.intro|intro _|(apply gc<;>simp+contextual))
    refine ⟨(p++[f],k',i+2,m),⟨by simp only; omega,by simp only; omega,by simp; omega,by simp; omega,?_⟩,?_,by simp only; omega⟩
    ·rw [hP,y5]; simp
    ·simp only [hap,hpn]
     have e12:(i:Int)+1+1=i+2:=by omega
     exact aE _ [(1000000,1000000,_),(3,3,_),(4,4,_),(6,6,_),(908,50,_)] ⟨by simp,by simp,by simp [aB,Blk.live,aS,e12],bT⟩ (by simp [aB])
   ·rw [if_neg h2] at y5
    have e1:P=p:=by have:=congrArg Prod.fst y5; simpa using this
    have e2:i1=i+1:=by have:=congrArg Prod.snd y5; simpa using this
    simp [aS,y1,hgx,Tb.c,hf,hfi]
    (repeat' first|contradiction|exact .ok|apply And.intro|intro _|(apply gc<;>simp+contextual[hf,hfi]))
    refine aK [1000000] n2 (by simp) (by simp) (by simp) (by simp [aS]) (by simp) ?_
    simp [aS,h2]
    (repeat' first|contradiction|exact .ok|apply And.intro|intro _|(apply gc<;>simp+contextual[h2]))
    refine AExitTo.mk rfl ?_
    exact aE _ [(1000000,1000000,_),(3,3,_),(4,4,_),(6,6,_),(908,908,_)] ⟨by simp,by simp,by simp [aB,Blk.live,aS,e1,e2],bT⟩ (by simp [aB])
  ·rw [if_neg hf] at y5
   have e1:P=p:=by have:=congrArg Prod.fst y5; simpa using this
   have e2:i1=i:=by have:=congrArg Prod.snd y5; simpa using this
   have hfi:¬ (0:Int)<x.fk.length:=by omega
   simp [aS,y1,hgx,Tb.c,hf,hfi]
   (repeat' first|contradiction|exact .ok|apply And.intro|intro _|(apply gc<;>simp+contextual[hf,hfi]))
   refine AExitTo.mk rfl ?_
   exact aE _ [(1000000,1000000,_),(3,3,_),(4,4,_),(6,6,_),(908,908,_)] ⟨by simp,by simp,by simp [aB,Blk.live,aS,e1,e2],bT⟩ (by simp [aB])
 have n3:=dM L i1 (by omega) 3 (by omega) (by omega)
 have v3:=bG L i1 (n:=3) (by omega)
 have hcn2:cn≤2:=by rw [hcn]; unfold KM; split <;> omega
 have htP:(aG P).take P.length=aG P:=List.take_of_length_le (by simp [aG])
 have hlP:(aG P).length=P.length:=by simp [aG]
 refine' (fun (key:SB En 95 1 { s:=cG [(0,.ptr 1000000 0 0),(3,.ptr 3 0 0),(4,.ptr 4 0 0),(6,.ptr 6 0 0),(8,.d (.int .i64 cn)),(9,.ptr 9 0 0),(10,.d (.int .i64 0))],b:=cE [(1000000,1000000,aS L (i1+1)),(3,3,.var [.d (.sl (S.map Tb.c))]),(4,4,.var [.d (.str []),.nils,.nils]),(6,6,.var [.d (.str tb),.ref 908 0 P.length 1,.nils]),(908,908,.arr 3 1 (aG P) false),(9,9,.var [.d (.int .i64 0),.d (.int .i64 0),.d (.int .i64 0),.d (.str []),.d (.int .i64 0),.nils])] } _ _)=>?main) ?keyg
 case main =>
  by_cases hz:aU L i1 3=0
  ·by_cases hp:P=[]
   ·have hc1:cn=1:=by rw [hcn]; unfold KM; rw [if_pos ⟨hz,hp⟩]
    have hp0:P.length=0:=by rw [hp]; rfl
    simp [aS]
    (repeat' first|contradiction|exact .ok|apply And.intro|intro _|(apply gc<;>simp+contextual))
    refine aK [1000000] n3 (by simp) (by simp) (by simp) (by simp [aS]) (by simp) ?_
    simp [aS,hz,hp0]
    (repeat' first|contradiction|exact .ok|apply And.intro|intro _|(apply gc<;>simp+contextual[hz,hp0]))
    refine key _ ?_
    exact aE _ [(1000000,1000000,_),(3,3,_),(4,4,_),(6,6,_),(908,908,_),(9,9,_)] ⟨by simp,by simp,by simp [aB,Blk.live,aS,hp0],bT⟩ (by simp [aB,hc1])
   ·have hc1:cn=0:=by rw [hcn]; unfold KM; rw [if_neg (fun e=>hp e.2),hz]; rfl
    have hp0:¬ P.length=0:=fun e=>hp (List.length_eq_zero_iff.1 e)
    have hp1:¬ (P.length:Int)=0:=by omega
    simp [aS]
    (repeat' first|contradiction|exact .ok|apply And.intro|intro _|(apply gc<;>simp+contextual))
    refine aK [1000000] n3 (by simp) (by simp) (by simp) (by simp [aS]) (by simp) ?_
    simp [aS,hz,hp0,hp1,hp]
    (repeat' first|contradiction|exact .ok|apply And.intro|intro _|(apply gc<;>simp+contextual[hz,hp0,hp1,hp]))
    refine key _ ?_
    exact aE _ [(1000000,1000000,_),(3,3,_),(4,4,_),(6,6,_),(908,908,_),(9,9,_)] ⟨by simp,by simp,by simp [aB,Blk.live,aS],bT⟩ (by simp [aB,hc1])
  ·have hc1:(cn:Int)=aU L i1 3:=by rw [hcn]; unfold KM; rw [if_neg (fun e=>hz e.1)]; omega
   simp [aS]
   (repeat' first|contradiction|exact .ok|apply And.intro|intro _|(apply gc<;>simp+contextual))
   refine aK [1000000] n3 (by simp) (by simp) (by simp) (by simp [aS]) (by simp) ?_
   simp [aS,hz]
   (repeat' first|contradiction|exact .ok|apply And.intro|intro _|(apply gc<;>simp+contextual[hz]))
   refine key _ ?_
   exact aE _ [(1000000,1000000,_),(3,3,_),(4,4,_),(6,6,_),(908,908,_),(9,9,_)] ⟨by simp,by simp,by simp [aB,Blk.live,aS],bT⟩ (by simp [aB,hc1])
 intro st hst
 refine aL aW (by decide) (fun j:Nat=>{ s:=cG [(0,.ptr 1000000 0 0),(3,.ptr 3 0 0),(4,.ptr 4 0 0),(6,.ptr 6 0 0),(8,.d (.int .i64 cn)),(9,.ptr 9 0 0),(10,.d (.int .i64 j))],b:=cE [(1000000,1000000,aS L (C j).2),(3,3,.var [.d (.sl (S.map Tb.c))]),(4,4,.var [.d (.str []),.nils,.nils]),(6,6,.var [.d (.str tb),.ref 908 0 P.length 1,.nils]),(908,908,.arr 3 1 (aG P) (decide (0<j))),(9,9,.var (wX j (C j).1))] })
  (fun j=>j≤cn) (fun j=>cn - j) 0 (by simp)
  (hst.trans (aE _ [(1000000,1000000,_),(3,3,_),(4,4,_),(6,6,_),(908,908,_),(9,9,_)] ⟨by simp,by simp,by simp [aB,Blk.live,aS,hC0,wX],bT⟩ (by simp [aB]))) ?_
 intro j hj
 by_cases hjc:j<cn
 ·rcases (by omega:j=0∨j=1) with rfl | rfl
  ·have hp0:=hpr (i1+1) (by omega)
   have hel:=Ex.clen (W (i1+1)).1
   have het:=Ex.ctake (W (i1+1)).1
   rw [← hC1] at hp0 hel het
   obtain ⟨c1,hc1⟩:∃ c1,c1=C 1:=⟨_,rfl⟩
   rw [← hc1] at hp0 hel het
   simp [aS,hC0,wX,hjc,htP,hlP]
   (repeat' first|contradiction|exact .ok|apply And.intro|intro _|(apply gc<;>simp+contextual[hjc]))
   refine aK [1000000] hp0 (by simp) (by simp) (by simp) (by simp [aS,hC0]) (by simp [aR,Vw.a,Vw.c,htP,hlP]) ?_
   simp [aS,Ex.a,hel,het]
   (repeat' first|contradiction|exact .ok|apply And.intro|intro _|(apply gc<;>simp+contextual[hel,het]))
   have hw1:=aH (n:=(1:Int)) (by omega) (by omega)
   refine ⟨1,by omega,?_,by simp only; omega⟩
   exact aE _ [(1000000,1000000,_),(3,3,_),(4,4,_),(6,6,_),(908,908,_),(9,9,_)] ⟨by simp,by simp,by simp [aB,Blk.live,aS,← hc1,wX,hel,het],bT⟩ (by simp [aB,hw1])
  ·have hb1:=hcond1 (i1+1)
   rw [← hC1] at hC2 hb1
   obtain ⟨c1,hc1⟩:∃ c1,c1=C 1:=⟨_,rfl⟩
   rw [← hc1] at hC2 hb1
   have hp1:=hpr c1.2 (by omega)
   have hb2:=hcond1 c1.2
   have hel1:=Ex.clen c1.1
   have het1:=Ex.ctake c1.1
   have hel:=Ex.clen (W c1.2).1
   have het:=Ex.ctake (W c1.2).1
   obtain ⟨w,hw⟩:∃ w,w=W c1.2:=⟨_,rfl⟩
   rw [← hw] at hC2 hp1 hb2 hel het
   have n2:=dM L w.2 (by omega) 2 (by omega) (by omega)
   have v2:=bG L w.2 (n:=2) (by omega)
   have hw2:=aH (n:=22+aU L w.2 2) (by omega) (by omega)
   have hwi:=aH (n:=(2:Int)) (by omega) (by omega)
   clear hel1 het1 hel het hw
   obtain ⟨⟨o1,p1,q1,t1,g1,s1⟩,j1⟩:=c1
   obtain ⟨⟨o2,p2,q2,t2,g2,s2⟩,j2⟩:=w
   simp only [Ex.a,Ex.c,aC] at hp1
   simp only at n2 hw2
   have hji:(1:Int)<cn:=by omega
   simp [aS,← hc1,wX,hjc,hji,htP,hlP,Ex.c,aC]
   (repeat' first|contradiction|exact .ok|apply And.intro|intro _|(apply gc<;>simp+contextual[hjc,hji]))
   refine aK [1000000] hp1 (by simp) (by simp) (by simp) (by simp [aS]) (by simp [aR,Vw.a,Vw.c,htP,hlP]) ?_
   simp [aS]
   (repeat' first|contradiction|exact .ok|apply And.intro|intro _|(apply gc<;>simp+contextual))
   refine aK [1000000] n2 (by simp) (by simp) (by simp) (by simp [aS]) (by simp) ?_
   simp [aS,hw2]
   (repeat' first|contradiction|exact .ok|apply And.intro|intro _|(apply gc<;>simp+contextual))
   refine ⟨2,by omega,?_,by simp only; omega⟩
   exact aE _ [(1000000,1000000,_),(3,3,_),(4,4,_),(6,6,_),(908,908,_),(9,9,_)] ⟨by simp,by simp,by simp [aB,Blk.live,aS,hC2,wX,Ex.c,aC],bT⟩ (by simp [aB,hwi])
 obtain rfl:j=cn:=by omega
 by_cases hj0:j=0
 ·have hji:¬ 0<j:=by omega
  rw [if_neg hji]
  subst hj0
  simp [aS,wX,htP,hlP,Vw.a,Vw.c]
  all_goals exact gz
 ·have hji:0<j:=by omega
  have hjz:(0:Int)<j:=by omega
  have hel:=Ex.clen (C j).1
  have het:=Ex.ctake (C j).1
  have hk6:(C j).1.c.take 6=(C j).1.c:=List.take_of_length_le (by omega)
  rw [if_pos hji]
  generalize C j=w at *
  simp [aS,wX,htP,hlP,hj0,hji,hjz,hel,het,hk6,Vw.a,Vw.c]
  (repeat' first|contradiction|exact .ok|apply And.intro|intro _|(apply gc<;>simp+contextual[hj0,hji,hjz,hel,het,hk6]))
end Go.Proofs.Tryz
