import Derived.Test.YtkkbepgccddjoaaGreatDoorCSmb
import Derived.Test.YtkkbepgccddjoaaGreatDoorCSmc
set_option linter.all false
namespace Go.Proofs.Tryz
open Go.Ab
set_option maxRecDepth 100000
set_option maxHeartbeats 8000000
def nM (L:List Int) (S:List Tb):Nat→Nat→Nat→List Int×Nat
 | 0,_,i=>([],i)
 | m+1,k,i=>if 0<(aR S k).fk.length then (if aS L i 2=1 then (aS L (i+1) (aR S k).fk.length::(nM L S m ((fC S k (aS L (i+1) (aR S k).fk.length)).getD 0) (i+2)).1,(nM L S m ((fC S k (aS L (i+1) (aR S k).fk.length)).getD 0) (i+2)).2) else ([],i+1)) else ([],i)
theorem NX {S:List Tb} (hd:NJ S) {k:Nat} (hk:k<S.length) {f:Int} (h0:0≤f) (hf:f<(aR S k).fk.length):∃ m,fC S k f=some m∧m<k:=by
 have hlt:f.toNat<(aR S k).fk.length:=by omega
 have:=hd k hk _ (List.getElem_mem hlt)
 refine ⟨eR S (aR S k).fk[f.toNat],?_,this.2⟩
 unfold fC
 rw [if_pos h0,gE hlt]
 simp only
 rw [if_pos this.1]
theorem pX (L:List Int) {S:List Tb} (hd:NJ S):∀ m k i,k<m→k<S.length→(∃ l,LB S k (nM L S m k i).1=some l)∧(nM L S m k i).1.length≤k∧(nM L S m k i).2≤i+1+2*k
 | 0,_,_,h,_=>absurd h (by omega)
 | m+1,k,i,hm,hk=>by
   unfold nM
   by_cases h0:0<(aR S k).fk.length
   ·rw [if_pos h0]
    by_cases h1:aS L i 2=1
    ·rw [if_pos h1]
     have hn:=bB L (i+1) (n:=(aR S k).fk.length) (by omega)
     generalize aS L (i+1) (aR S k).fk.length=f at *
     obtain ⟨k',hs,hk'⟩:=NX hd hk hn.1 hn.2
     rw [hs,Option.getD_some]
     obtain ⟨⟨l,i1⟩,i2,i3⟩:=pX L hd m k' (i+2) (by omega) (by omega)
     refine ⟨⟨k'::l,?_⟩,?_,?_⟩
     ·rw [LB,hs]; simp only; rw [i1]; rfl
     ·simp; omega
     ·simp only; omega
    ·rw [if_neg h1]
     exact ⟨⟨[],by rw [LB]⟩,by simp,by simp only; omega⟩
   ·rw [if_neg h0]
    exact ⟨⟨[],by rw [LB]⟩,by simp,by simp only; omega⟩
def NY (L:List Int) (P:List Int) (i:Nat):Nat:=if aS L i 3=0∧P=[] then 1 else (aS L i 3).toNat
def exZ:Ex:=.mk 0 0 0 [] 0 []
def mK (L:List Int) (S:List Tb) (l:List Nat) (i:Nat):Nat→Ex×Nat
 | 0=>(exZ,i)
 | 1=>dV L S l i
 | n+2=>(.mk (22+aS L (dV L S l (mK L S l i (n+1)).2).2 2) 0 0 [] 0 [(mK L S l i (n+1)).1,(dV L S l (mK L S l i (n+1)).2).1],(dV L S l (mK L S l i (n+1)).2).2+1)
def FD (S:List Tb) (k:Nat):List UInt8:=(aR S k).n
def rU (L:List Int) (S:List Tb) (a:Nat):Vw×Nat :=
 let k0:=(aS L a S.length).toNat
 let P:=nM L S S.length k0 (a+1)
 let l:=(dW S ⟨FD S k0,P.1,[]⟩).getD []
 let n:=NY L P.1 P.2
 let e:=mK L S l (P.2+1) n
 (⟨FD S k0,P.1,if 0<n then [e.1] else []⟩,e.2)
structure PAt (L:List Int) (S:List Tb) (k0 i0:Nat) (y:List Int×Nat×Nat×Nat):Prop where
 k:y.2.1<S.length
 m:y.2.1<y.2.2.2
 le:y.1.length+y.2.1≤k0
 i:y.2.2.1≤i0+2*y.1.length
 eq:nM L S S.length k0 i0=(y.1++(nM L S y.2.2.2 y.2.1 y.2.2.1).1,(nM L S y.2.2.2 y.2.1 y.2.2.1).2)
def GS (j:Nat) (e:Ex):List AV:=if j=0 then [.d (.int .i64 0),.d (.int .i64 0),.d (.int .i64 0),.d (.str []),.d (.int .i64 0),.nils] else e.c.map AV.d
theorem SO (L:List Int) (a:Nat) (ha:a≤500000) (S:List Tb) (hl:S.length≤1000) (h0:0<S.length) (hS:∀ x∈S,qE x) (hd:NJ S) (hnm:∀ k,k<S.length→mV S (FD S k)=k) :
  Cf En 20 [.ptr 1000000 0 0,aN S] [aQ L a] (rU L S a).1.a [aQ L (rU L S a).2]:=by
 have hnx:=bB L a (n:=S.length) (by omega)
 have htx:=dH L a (by omega) S.length (by omega) (by omega)
 obtain ⟨k0,hk0⟩:∃ k:Nat,aS L a S.length=k:=⟨(aS L a S.length).toNat,by omega⟩
 unfold rU
 rw [hk0] at htx hnx ⊢
 simp only [Int.toNat_natCast]
 have hk:k0<S.length:=by omega
 obtain ⟨⟨lc,hlc⟩,hpl,hpi⟩:=pX L hd S.length k0 (a+1) hk hk
 obtain ⟨P,i1,hP⟩:∃ P i1,nM L S S.length k0 (a+1)=(P,i1):=⟨_,_,rfl⟩
 rw [hP] at hlc hpl hpi
 have hch:dW S ⟨FD S k0,P,[]⟩=some (k0::lc):=by
  unfold dW
  have h1:(0:Int)≤mV S (FD S k0):=by rw [hnm k0 hk]; omega
  simp only
  rw [if_pos h1,hnm k0 hk,Int.toNat_natCast,hlc]
  rfl
 have htab:∀ k (h:k<S.length),aR S k=S[k]:=fun k h=>by unfold aR; rw [gE h]; rfl
 have htb:FD S k0=S[k0].n:=by unfold FD; rw [htab k0 hk]
 have hkz:(0:Int)≤k0:=by omega
 have hpr:∀ i:Nat,i≤800000→Cf En 51 [.ptr 1000000 0 0,aN S,(⟨FD S k0,P,[]⟩:Vw).a] [aQ L i] (dV L S (k0::lc) i).1.a [aQ L (dV L S (k0::lc) i).2]:=fun i hi=>aGj L i hi S hl hS _ (by simp only at hpl ⊢; omega) (k0::lc) hch (by have:=(cK hch).2; simp only at this hpl; omega)
 simp only [hP,hch,Option.getD_some]
 have hcond1:=aEa L S (k0::lc)
 have hC0:mK L S (k0::lc) (i1+1) 0=(exZ,i1+1):=rfl
 have hC1:mK L S (k0::lc) (i1+1) 1=dV L S (k0::lc) (i1+1):=rfl
 have hC2:mK L S (k0::lc) (i1+1) 2=(.mk (22+aS L (dV L S (k0::lc) (dV L S (k0::lc) (i1+1)).2).2 2) 0 0 [] 0 [(dV L S (k0::lc) (i1+1)).1,(dV L S (k0::lc) (dV L S (k0::lc) (i1+1)).2).1],(dV L S (k0::lc) (dV L S (k0::lc) (i1+1)).2).2+1):=rfl
 generalize mK L S (k0::lc) (i1+1)=C at *
 generalize dV L S (k0::lc)=W at *
 generalize FD S k0=tb at *
 obtain ⟨cn,hcn⟩:∃ cn,cn=NY L P i1:=⟨_,rfl⟩
 rw [← hcn]
 simp only at hpl hpi
 refine cI aW (fn:=Tryz.f20) rfl ?_
 simp [aN,aQ]
 (repeat' first|contradiction|exact .ok|apply And.intro|intro _|(apply gc<;>simp+contextual))
 refine aH [1000000] htx (by simp [aQ]) (by simp) ?_
 simp [aQ,hk,Tb.c,← htb]
 (repeat' first|contradiction|exact .ok|apply And.intro|intro _|(apply gc<;>simp+contextual))
 refine xA aW (by decide) (fun y:List Int×Nat×Nat×Nat=>{ s:=cE [(0,.ptr 1000000 0 0),(3,.ptr 3 0 0),(4,.ptr 4 0 0),(5,.d (.int .i64 y.2.1)),(6,.ptr 6 0 0)],b:=cC [(1000000,1000000,aQ L y.2.2.1),(3,3,.var [.d (.sl (S.map Tb.c))]),(4,4,.var [.d (.str []),.nils,.nils]),(6,6,.var [.d (.str tb),.ref 908 0 y.1.length 1,.nils]),(908,908,.arr 3 1 (aD y.1) false)] })
  (PAt L S k0 (a+1)) (fun y=>y.2.1) ([],k0,a+1,S.length) ⟨hk,hk,by simp,by simp,by simp⟩ 0
  { s:=cE [(0,.ptr 1000000 0 0),(3,.ptr 3 0 0),(4,.ptr 4 0 0),(6,.ptr 6 0 0)],b:=cC [(1000000,1000000,aQ L i1),(3,3,.var [.d (.sl (S.map Tb.c))]),(4,4,.var [.d (.str []),.nils,.nils]),(6,6,.var [.d (.str tb),.ref 908 0 P.length 1,.nils]),(908,908,.arr 3 1 (aD P) false)] }
  ((iH 6 908 3 1 1 (cells:=[.d (.str tb),.nils,.nils]) (by simp) rfl (by simp) (by decide) (by decide)).trans (aI _ [(1000000,1000000,_),(3,3,_),(4,4,_),(6,6,_),(908,908,_)] ⟨by simp,by simp,by simp [aB,Blk.live,bP,aQ,aD],bK⟩ (by simp [aB]))) ?_ ?_
 ·rintro ⟨p,k,i,m⟩ ⟨y1,y2,y3,y4,y5⟩
  simp only at y1 y2 y3 y4 y5
  obtain ⟨m,rfl⟩:∃ m',m=m'+1:=⟨m - 1,by omega⟩
  rw [hP] at y5
  simp only [nM] at y5
  have hxm:=hS _ (List.getElem_mem y1)
  have hst:=NX hd y1 (f:=aS L (i+1) (aR S k).fk.length)
  have hta:=DP S hl (fun x hx=>(hS x hx).ok) y1 (aS L (i+1) (aR S k).fk.length)
  rw [htab k y1] at y5 hst hta
  obtain ⟨x,hx⟩:∃ x,x=S[k]:=⟨_,rfl⟩
  have hgx:∀ h,S[k]'h=x:=fun _=>hx.symm
  rw [← hx] at y5 hst hta hxm
  have hfk:=hxm.ok.fk
  by_cases hf:0<x.fk.length
  ·have hfi:(0:Int)<x.fk.length:=by omega
   rw [if_pos hf] at y5
   have n2:=dH L i (by omega) 2 (by omega) (by omega)
   by_cases h2:aS L i 2=1
   ·rw [if_pos h2] at y5
    have hn:=bB L (i+1) (n:=x.fk.length) (by omega)
    have nf:=dH L (i+1) (by omega) x.fk.length (by omega) (by omega)
    obtain ⟨k',hs,hk'⟩:=hst hn.1 hn.2
    rw [hs] at y5 hta
    simp only [Option.getD_some] at y5 hta
    generalize aS L (i+1) x.fk.length=f at *
    have htk:(aD p).take p.length=aD p:=List.take_of_length_le (by simp [aD])
    have hil:(aD p).length=p.length:=by simp [aD]
    have hap:aD (p++[f])=aD p++[[.int .i64 f]]:=by simp [aD]
    have hpn:(p++[f]).length=p.length+1:=by simp
    simp [aQ,y1,hgx,Tb.c,hf]
    (repeat' first|contradiction|exact .ok|apply And.intro|intro _|(apply gc<;>simp+contextual[hf,hfi]))
    refine aH [1000000] n2 (by simp [aQ]) (by simp) ?_
    simp [aQ,h2]
    (repeat' first|contradiction|exact .ok|apply And.intro|intro _|(apply gc<;>simp+contextual[h2]))
    simp [y1,hgx,Tb.c]
    (repeat' first|contradiction|exact .ok|apply And.intro|intro _|(apply gc<;>simp+contextual))
    refine aH [1000000] nf (by simp [aQ]) (by simp) ?_
    simp [aQ,hil,gF (p.length+1) (by omega) 8 (by decide)]
    (repeat' first|contradiction|exact .ok|apply And.intro|intro _|(apply gc<;>simp+contextual))
    refine aA hta (by simp [aN]) ?_
    simp
    (repeat' first|contradiction|exact .ok|apply And.intro|intro _|(apply gc<;>simp+contextual))
    refine ⟨(p++[f],k',i+2,m),⟨by simp only; omega,by simp only; omega,by simp; omega,by simp; omega,?_⟩,?_,by simp only; omega⟩
    ·rw [hP,y5]; simp
    ·simp only [hap,hpn]
     have e12:(i:Int)+1+1=i+2:=by omega
     exact aI _ [(1000000,1000000,_),(3,3,_),(4,4,_),(6,6,_),(908,50,_)] ⟨by simp,by simp,by simp [aB,Blk.live,e12],bK⟩ (by simp [aB])
   ·rw [if_neg h2] at y5
    have e1:P=p:=by have:=congrArg Prod.fst y5; simpa using this
    have e2:i1=i+1:=by have:=congrArg Prod.snd y5; simpa using this
    simp [aQ,y1,hgx,Tb.c,hf]
    (repeat' first|contradiction|exact .ok|apply And.intro|intro _|(apply gc<;>simp+contextual[hf,hfi]))
    refine aH [1000000] n2 (by simp [aQ]) (by simp) ?_
    simp [aQ,h2]
    (repeat' first|contradiction|exact .ok|apply And.intro|intro _|(apply gc<;>simp+contextual[h2]))
    refine AExitTo.mk rfl ?_
    exact aI _ [(1000000,1000000,_),(3,3,_),(4,4,_),(6,6,_),(908,908,_)] ⟨by simp,by simp,by simp [aB,Blk.live,e1,e2],bK⟩ (by simp [aB])
  ·rw [if_neg hf] at y5
   have e1:P=p:=by have:=congrArg Prod.fst y5; simpa using this
   have e2:i1=i:=by have:=congrArg Prod.snd y5; simpa using this
   have hfi:¬ (0:Int)<x.fk.length:=by omega
   simp [aQ,y1,hgx,Tb.c,hf]
   (repeat' first|contradiction|exact .ok|apply And.intro|intro _|(apply gc<;>simp+contextual[hf,hfi]))
   refine AExitTo.mk rfl ?_
   exact aI _ [(1000000,1000000,_),(3,3,_),(4,4,_),(6,6,_),(908,908,_)] ⟨by simp,by simp,by simp [aB,Blk.live,e1,e2],bK⟩ (by simp [aB])
 have n3:=dH L i1 (by omega) 3 (by omega) (by omega)
 have v3:=bB L i1 (n:=3) (by omega)
 have hcn2:cn≤2:=by rw [hcn]; unfold NY; split <;> omega
 have htP:(aD P).take P.length=aD P:=List.take_of_length_le (by simp [aD])
 have hlP:(aD P).length=P.length:=by simp [aD]
 refine' (fun (key:WK En 95 1 { s:=cE [(0,.ptr 1000000 0 0),(3,.ptr 3 0 0),(4,.ptr 4 0 0),(6,.ptr 6 0 0),(8,.d (.int .i64 cn)),(9,.ptr 9 0 0),(10,.d (.int .i64 0))],b:=cC [(1000000,1000000,aQ L (i1+1)),(3,3,.var [.d (.sl (S.map Tb.c))]),(4,4,.var [.d (.str []),.nils,.nils]),(6,6,.var [.d (.str tb),.ref 908 0 P.length 1,.nils]),(908,908,.arr 3 1 (aD P) false),(9,9,.var [.d (.int .i64 0),.d (.int .i64 0),.d (.int .i64 0),.d (.str []),.d (.int .i64 0),.nils])] } _ _)=>?main) ?keyg
 case main =>
  by_cases hz:aS L i1 3=0
  ·by_cases hp:P=[]
   ·have hc1:cn=1:=by rw [hcn]; unfold NY; rw [if_pos ⟨hz,hp⟩]
    have hp0:P.length=0:=by rw [hp]; rfl
    simp [aQ]
    (repeat' first|contradiction|exact .ok|apply And.intro|intro _|(apply gc<;>simp+contextual))
    refine aH [1000000] n3 (by simp [aQ]) (by simp) ?_
    simp [aQ,hz,hp0]
    (repeat' first|contradiction|exact .ok|apply And.intro|intro _|(apply gc<;>simp+contextual[hz,hp0]))
    refine key _ ?_
    exact aI _ [(1000000,1000000,_),(3,3,_),(4,4,_),(6,6,_),(908,908,_),(9,9,_)] ⟨by simp,by simp,by simp [aB,Blk.live,aQ,hp0],bK⟩ (by simp [aB,hc1])
   ·have hc1:cn=0:=by rw [hcn]; unfold NY; rw [if_neg (fun e=>hp e.2),hz]; rfl
    have hp0:¬ P.length=0:=fun e=>hp (List.length_eq_zero_iff.1 e)
    have hp1:¬ (P.length:Int)=0:=by omega
    simp [aQ]
    (repeat' first|contradiction|exact .ok|apply And.intro|intro _|(apply gc<;>simp+contextual))
    refine aH [1000000] n3 (by simp [aQ]) (by simp) ?_
    simp [aQ,hz,hp0]
    (repeat' first|contradiction|exact .ok|apply And.intro|intro _|(apply gc<;>simp+contextual[hz,hp0,hp1,hp]))
    refine key _ ?_
    exact aI _ [(1000000,1000000,_),(3,3,_),(4,4,_),(6,6,_),(908,908,_),(9,9,_)] ⟨by simp,by simp,by simp [aB,Blk.live,aQ],bK⟩ (by simp [aB,hc1])
  ·have hc1:(cn:Int)=aS L i1 3:=by rw [hcn]; unfold NY; rw [if_neg (fun e=>hz e.1)]; omega
   simp [aQ]
   (repeat' first|contradiction|exact .ok|apply And.intro|intro _|(apply gc<;>simp+contextual))
   refine aH [1000000] n3 (by simp [aQ]) (by simp) ?_
   simp [aQ,hz]
   (repeat' first|contradiction|exact .ok|apply And.intro|intro _|(apply gc<;>simp+contextual[hz]))
   refine key _ ?_
   exact aI _ [(1000000,1000000,_),(3,3,_),(4,4,_),(6,6,_),(908,908,_),(9,9,_)] ⟨by simp,by simp,by simp [aB,Blk.live,aQ],bK⟩ (by simp [aB,hc1])
 intro st hst
 refine aL aW (fun j:Nat=>{ s:=cE [(0,.ptr 1000000 0 0),(3,.ptr 3 0 0),(4,.ptr 4 0 0),(6,.ptr 6 0 0),(8,.d (.int .i64 cn)),(9,.ptr 9 0 0),(10,.d (.int .i64 j))],b:=cC [(1000000,1000000,aQ L (C j).2),(3,3,.var [.d (.sl (S.map Tb.c))]),(4,4,.var [.d (.str []),.nils,.nils]),(6,6,.var [.d (.str tb),.ref 908 0 P.length 1,.nils]),(908,908,.arr 3 1 (aD P) (decide (0<j))),(9,9,.var (GS j (C j).1))] })
  (fun j=>j≤cn) (fun j=>cn - j) 0 (by simp)
  (hst.trans (aI _ [(1000000,1000000,_),(3,3,_),(4,4,_),(6,6,_),(908,908,_),(9,9,_)] ⟨by simp,by simp,by simp [aB,Blk.live,aQ,hC0,GS],bK⟩ (by simp [aB]))) ?_
 intro j hj
 by_cases hjc:j<cn
 ·rcases (by omega:j=0∨j=1) with rfl | rfl
  ·have hp0:=hpr (i1+1) (by omega)
   have hel:=Ex.clen (W (i1+1)).1
   have het:=Ex.ctake (W (i1+1)).1
   rw [← hC1] at hp0 hel het
   obtain ⟨c1,hc1⟩:∃ c1,c1=C 1:=⟨_,rfl⟩
   rw [← hc1] at hp0 hel het
   simp [aQ,hC0,GS,hjc,htP,hlP]
   (repeat' first|contradiction|exact .ok|apply And.intro|intro _|(apply gc<;>simp+contextual[hjc]))
   refine aH [1000000] hp0 (by simp [aQ]) (by simp [aN,Vw.a,Vw.c,htP,hlP]) ?_
   simp [aQ,Ex.a,hel,het]
   (repeat' first|contradiction|exact .ok|apply And.intro|intro _|(apply gc<;>simp+contextual[hel,het]))
   have hw1:=wI (n:=(1:Int))
   refine ⟨1,by omega,?_,by simp only; omega⟩
   exact aI _ [(1000000,1000000,_),(3,3,_),(4,4,_),(6,6,_),(908,908,_),(9,9,_)] ⟨by simp,by simp,by simp [aB,Blk.live,← hc1],bK⟩ (by simp [aB,hw1])
  ·have hb1:=hcond1 (i1+1)
   rw [← hC1] at hC2 hb1
   obtain ⟨c1,hc1⟩:∃ c1,c1=C 1:=⟨_,rfl⟩
   rw [← hc1] at hC2 hb1
   have hp1:=hpr c1.2 (by omega)
   have hb2:=hcond1 c1.2
   have hel1:=Ex.clen c1.1
   have het1:=Ex.ctake c1.1
   have hel:=Ex.clen (W c1.2).1
   have het:=Ex.ctake (W c1.2).1
   obtain ⟨w,hw⟩:∃ w,w=W c1.2:=⟨_,rfl⟩
   rw [← hw] at hC2 hp1 hb2 hel het
   have n2:=dH L w.2 (by omega) 2 (by omega) (by omega)
   have v2:=bB L w.2 (n:=2) (by omega)
   have hw2:=wI (n:=22+aS L w.2 2)
   have hwi:=wI (n:=(2:Int))
   clear hel1 het1 hel het hw
   obtain ⟨⟨o1,p1,q1,t1,g1,s1⟩,j1⟩:=c1
   obtain ⟨⟨o2,p2,q2,t2,g2,s2⟩,j2⟩:=w
   simp only [Ex.a,Ex.c,aE] at hp1
   simp only at n2 hw2
   have hji:(1:Int)<cn:=by omega
   simp [aQ,← hc1,GS,hji,htP,hlP,Ex.c,aE]
   (repeat' first|contradiction|exact .ok|apply And.intro|intro _|(apply gc<;>simp+contextual[hjc,hji]))
   refine aH [1000000] hp1 (by simp [aQ]) (by simp [aN,Vw.a,Vw.c,htP,hlP]) ?_
   simp [aQ]
   (repeat' first|contradiction|exact .ok|apply And.intro|intro _|(apply gc<;>simp+contextual))
   refine aH [1000000] n2 (by simp [aQ]) (by simp) ?_
   simp [aQ,hw2]
   (repeat' first|contradiction|exact .ok|apply And.intro|intro _|(apply gc<;>simp+contextual))
   refine ⟨2,by omega,?_,by simp only; omega⟩
   exact aI _ [(1000000,1000000,_),(3,3,_),(4,4,_),(6,6,_),(908,908,_),(9,9,_)] ⟨by simp,by simp,by simp [aB,Blk.live,hC2,Ex.c,aE],bK⟩ (by simp [aB,hwi])
 obtain rfl:j=cn:=by omega
 by_cases hj0:j=0
 ·have hji:¬ 0<j:=by omega
  rw [if_neg hji]
  subst hj0
  simp [aQ,GS,htP,hlP,Vw.a,Vw.c]
  all_goals exact gz
 ·have hji:0<j:=by omega
  have hjz:(0:Int)<j:=by omega
  have hel:=Ex.clen (C j).1
  have het:=Ex.ctake (C j).1
  have hk6:(C j).1.c.take 6=(C j).1.c:=List.take_of_length_le (by omega)
  rw [if_pos hji]
  generalize C j=w at *
  simp [aQ,GS,htP,hlP,hj0,hji,hel,het,hk6,Vw.a,Vw.c]
  (repeat' first|contradiction|exact .ok|apply And.intro|intro _|(apply gc<;>simp+contextual[hj0,hji,hjz,hel,het,hk6]))
end Go.Proofs.Tryz
