import Derived.Test.YtkkbepgccddjoaaGreatDoorCR18
import Derived.Test.YtkkbepgccddjoaaGreatDoorCSsp
import Derived.Test.YtkkbepgccddjoaaGreatDoorSms
import Derived.Test.YtkkbepgccddjoaaGreatDoorCRwc
import Derived.Test.YtkkbepgccddjoaaGreatDoorCShr
import Derived.Test.YtkkbepgccddjoaaGreatDoorCSag
set_option linter.all false
namespace Go.Proofs.Tryz
open Go.Ab
set_option maxRecDepth 100000
set_option maxHeartbeats 8000000
theorem OL {l:List Nat} {j:Nat} (h:j≤l.length):∀ h',(aJ (dJ 0 l))[j]'h'=(bD (l.take j):Int):=fun h'=>by
 have hj:j<(dJ 0 l).length:=by rw [dC] at h'; exact h'
 rw [gC hj]
 have:=AH h
 rw [gE hj,Option.some.injEq] at this
 rw [this]
theorem aCa (l:List Nat) (hl:l.length≤900) (hs:bD l≤1000000000) (n:Nat) (hn:n<bD l):Cf En 114 [.d (.sl (aD (aJ l))),.d (.int .i64 n)] [] (.tup [.d (.int .i64 (eP l n).1),.d (.int .i64 (eP l n).2),.d (.bool true)]) []:=by
 refine cI aW (fn:=Tryz.f114) rfl ?_
 have ho:=nO l (by omega) hs
 obtain ⟨k1,k2,k3⟩:=lU hn
 generalize (eP l n).1=f at *
 generalize (eP l n).2=j at *
 have hOl:(aJ (dJ 0 l)).length=l.length+1:=by rw [dC,iK]
 have hll:=dC l
 have hat:=fun i (h:i≤l.length)=>OL h
 have hst:=lV k1
 have hmono:=fun i k (h:i≤k)=>xX l h
 generalize aJ (dJ 0 l)=O at *
 simp
 (repeat' first|contradiction|exact .ok|apply And.intro|intro _|(apply gc<;>simp+contextual))
 refine aP ho ?_
 simp
 (repeat' first|contradiction|exact .ok|apply And.intro|intro _|(apply gc<;>simp+contextual))
 refine aL aW (fun i:Nat=>{ s:=cE [(0,.d (.sl (aD (aJ l)))),(1,.d (.int .i64 n)),(7,.d (.sl (aD O))),(9,.d (.int .i64 i))],b:=cC [] }) (fun i=>i≤f) (fun i=>f - i) 0 (by simp) (aI _ [] .nil (by simp)) ?_
 intro i hi
 have hil:i<l.length:=by omega
 have hw:=wI (n:=(i:Int)+1)
 have hiO:i<O.length:=by omega
 have hiO1:i+1<O.length:=by omega
 have g1:=hat i (by omega)
 have g2:=hat (i+1) (by omega)
 have m1:=hmono i f hi
 have hi0:(0:Int)≤(i:Int)+1:=by omega
 by_cases hif:i=f
 ·subst hif
  have c1:(bD (l.take i):Int)≤n:=by omega
  have c1n:bD (l.take i)≤n:=by omega
  have c2:(n:Int)<bD (l.take (i+1)):=by omega
  have c2n:n<bD (l.take (i+1)):=by omega
  generalize bD (l.take i)=a at *
  generalize bD (l.take (i+1))=b at *
  have hwj:=wI (n:=(n:Int) - a)
  have hje:(n:Int) - a=j:=by omega
  simp [hil,hll,hiO,hiO1,g1,g2,hw,hi0,c1,c2]
  (repeat' first|contradiction|exact .ok|apply And.intro|intro _|(apply gc<;>simp+contextual[hil,hll,hiO,hiO1,g1,g2,hw,hi0,c1,c1n,c2,c2n]))
  simp [hje]
  (repeat' first|contradiction|exact .ok|apply And.intro|intro _|(apply gc<;>simp+contextual))
  all_goals (try (rw [hje] at hwj; simp [hwj]))
 ·have m2:=hmono (i+1) f (by omega)
  have c1:(bD (l.take i):Int)≤n:=by omega
  have c1n:bD (l.take i)≤n:=by omega
  have c2:¬ (n:Int)<bD (l.take (i+1)):=by omega
  have c2n:¬ n<bD (l.take (i+1)):=by omega
  generalize bD (l.take i)=a at *
  generalize bD (l.take (i+1))=b at *
  simp [hil,hll,hiO,hiO1,g1,g2,hw,hi0,c1,c2]
  (repeat' first|contradiction|exact .ok|apply And.intro|intro _|(apply gc<;>simp+contextual[hil,hll,hiO,hiO1,g1,g2,hw,hi0,c1,c1n,c2,c2n]))
  refine ⟨i+1,by omega,?_,by simp; omega⟩
  exact aI _ [] .nil (by simp)
theorem TD (l:List Nat) (hl:l.length≤900) (hs:bD l≤1000000000) (b j:Nat) (hb:b<l.length) (h0:0<l[b]) (hj:j≤1000000000):Cf En 115 [.d (.sl (aD (aJ l))),.d (.int .i64 b),.d (.int .i64 j)] [] (.tup [.d (.int .i64 (sB l b j)),.d (.bool true)]) []:=by
 refine cI aW (fn:=Tryz.f115) rfl ?_
 have ho:=nO l (by omega) hs
 have hOl:(aJ (dJ 0 l)).length=l.length+1:=by rw [dC,iK]
 have hll:=dC l
 have hat:=OL (l:=l) (j:=b) (by omega)
 have hlt:=AG (j:=j) hb h0
 have htg:sB l b j=bD (l.take b)+j % l[b]:=by unfold sB; rw [gE hb]; rfl
 have hgb:∀ h,(aJ l)[b]'h=(l[b]:Int):=fun _=>gC hb
 rw [htg] at hlt ⊢
 generalize bD (l.take b)=a at *
 generalize l[b]=c at *
 generalize aJ (dJ 0 l)=O at *
 have hbO:b<O.length:=by omega
 have b0:¬ (b:Int)<0:=by omega
 have b1:¬ (l.length:Int)≤b:=by omega
 have b1n:¬ l.length≤b:=by omega
 have c0:¬ (c:Int)=0:=by omega
 have c0n:¬ c=0:=by omega
 have j0:¬ (j:Int)<0:=by omega
 have hmod:(j:Int).tmod c=((j % c:Nat):Int):=by rw [Int.tmod_eq_emod_of_nonneg (by omega)]; simp
 have hwm:=wI (n:=(a:Int)+((j % c:Nat):Int))
 have hbl:b<(aJ l).length:=by omega
 generalize j % c=m at *
 simp
 (repeat' first|contradiction|exact .ok|apply And.intro|intro _|(apply gc<;>simp+contextual))
 refine aP ho ?_
 simp [b0,b1,hll,hgb,c0n,j0,hb]
 (repeat' first|contradiction|exact .ok|apply And.intro|intro _|(apply gc<;>simp+contextual[b0,b1,b1n,hll,hbl,hgb,c0,c0n,j0,hb]))
 simp [hbO,hat,hll,hb,hgb,c0n,hmod,hwm]
 (repeat' first|contradiction|exact .ok|apply And.intro|intro _|(apply gc<;>simp+contextual[hbO,hat,hbl,hgb,c0,c0n,hmod,hwm]))
theorem OM {S:List Tb} {T:Nat→List Bk} {b:Bk} {j c:Nat}:∀ {gs:List Fk} {f:Nat} {r r':List V},r.length=r'.length→(r[c]?=r'[c]?∨∃ g∈gs,(eA g.cols).toNat=c)→(fW S T b j gs f r)[c]?=(fW S T b j gs f r')[c]?
 | [],f,r,r',_,h=>by
   rcases h with h | ⟨g,hg,_⟩
   ·exact h
   ·cases hg
 | q::gs,f,r,r',hl,h=>by
   rw [fW,fW]
   refine OM (by rw [List.length_set,List.length_set,hl]) ?_
   by_cases hq:(eA q.cols).toNat=c
   ·left
    subst hq
    by_cases hlt:(eA q.cols).toNat<r.length
    ·rw [List.getElem?_set_self hlt,List.getElem?_set_self (by omega)]
    ·rw [List.getElem?_eq_none (by rw [List.length_set]; omega),List.getElem?_eq_none (by rw [List.length_set]; omega)]
   ·rw [List.getElem?_set_ne hq,List.getElem?_set_ne hq]
    rcases h with h | ⟨g,hg,e⟩
    ·exact .inl h
    ·rcases List.mem_cons.1 hg with rfl | hg
     ·exact absurd e hq
     ·exact .inr ⟨g,hg,e⟩
theorem aCb {x:Tb} {v:List V} {n c:Nat} (hc:c<v.length) (hk:cU x c=false):(iQ x v n)[c]?=v[c]?:=by
 unfold iQ
 rw [bE,if_pos hc]
 rw [hk,if_neg (by simp),gE hc]
 rfl
theorem aCc {S:List Tb} {T:Nat→List Bk} {x:Tb} (hK:iV x) {b:Bk} (hb:b.v.length=x.cols.length) {j n:Nat}:fW S T b j x.fk 0 ((iQ x b.v b.v.length).set (eA x.pr).toNat (jK (n+1:Nat)))=qG S T x b j n:=by
 unfold qG
 apply List.ext_getElem?
 intro c
 have hl:((iQ x b.v b.v.length).set (eA x.pr).toNat (jK (n+1:Nat))).length=(b.v.set (eA x.pr).toNat (jK (n+1:Nat))).length:=by rw [List.length_set,List.length_set,gT]
 refine OM hl ?_
 obtain ⟨p,hp,hpl⟩:=hK.pr
 by_cases hcp:(eA x.pr).toNat=c
 ·left
  subst hcp
  have:(eA x.pr).toNat<b.v.length:=by rw [hp]; simp [eA]; omega
  rw [List.getElem?_set_self (by rw [gT]; exact this),List.getElem?_set_self this]
 ·rw [List.getElem?_set_ne hcp,List.getElem?_set_ne hcp]
  by_cases hc:c<b.v.length
  ·cases hk:cU x c with
   | false=>exact .inl (aCb hc hk)
   | true =>
     right
     unfold cU at hk
     rw [Bool.or_eq_true] at hk
     rcases hk with hk | hk
     ·exfalso
      rw [hp] at hk hcp
      simp [eA] at hk hcp
      omega
     ·obtain ⟨g,hg,hk⟩:=List.any_eq_true.1 hk
      obtain ⟨d,hde,_⟩:=hK.fk g hg
      refine ⟨g,hg,?_⟩
      rw [hde] at hk ⊢
      simp [eA] at hk ⊢
      omega
  ·left
   rw [List.getElem?_eq_none (by rw [gT]; omega),List.getElem?_eq_none (by omega)]
theorem aEz {S:List Tb} {X:List (List Bk)} (h:jS S X) {k:Nat} {x:Tb} {l:List Bk} (hk:S[k]?=some x) (hl:X[k]?=some l) (hK:iV x) {n:Nat} (hn:n<bD (aX l)) :
  Cf En 68 [aN S,cP X,.d (.int .i64 k),.d (.int .i64 n)] [] (.d (.sl ((qS S (dN X) x l n).map V.c))) []:=by
 refine cI aW (fn:=Tryz.f68) rfl ?_
 obtain ⟨hkl,hgx0⟩:=List.getElem?_eq_some_iff.1 hk
 obtain ⟨hkX,hgl0⟩:=List.getElem?_eq_some_iff.1 hl
 have hgx:∀ h,S[k]'h=x:=fun _=>hgx0
 have hgl:∀ h,X[k]'h=l:=fun _=>hgl0
 have hxm:x∈S:=by rw [← hgx0]; exact List.getElem_mem hkl
 have hlm:l∈X:=by rw [← hgl0]; exact List.getElem_mem hkX
 have hxo:=h.ok x hxm
 have hfl:=hxo.fk
 have hcols:=hxo.cols
 have hfew:=h.few
 obtain ⟨hl1,hl2⟩:=h.bl l hlm
 have hct:=qF l hl1
 have hfi:=aCa (aX l) (by rw [eD]; exact hl1) hl2 n hn
 obtain ⟨f1,f2,f3⟩:=lU hn
 have hqn:qS S (dN X) x l n=match l[(eP (aX l) n).1]? with | some b=>qG S (dN X) x b (eP (aX l) n).2 n | none=>[]:=rfl
 rw [hqn]
 generalize (eP (aX l) n).1=q at *
 generalize (eP (aX l) n).2=j at *
 have hq:q<l.length:=by rw [eD] at f1; exact f1
 have hjn:j≤n:=by omega
 obtain ⟨b,hb⟩:∃ b,b=l[q]:=⟨_,rfl⟩
 have hgb:∀ h,l[q]'h=b:=fun _=>hb.symm
 have hbm:b∈l:=by rw [hb]; exact List.getElem_mem hq
 have hB:=h.blk k x l hk hl b hbm
 have hbv:=hB.v
 have hbp:=hB.p
 have hbpar:=hB.par
 obtain ⟨p,hpe,hpl⟩:=hK.pr
 have hva:=TC x hxo b hbv (fun e=>by rw [e] at hbv; simp at hbv; omega)
 have hip:aD x.pr=[[.int .i64 p]]:=by rw [hpe]; rfl
 have hpc:(eA x.pr).toNat=p:=by rw [hpe]; simp [eA]
 have hpv:p<b.v.length:=by omega
 have hwn:=wI (n:=(n:Int)+1)
 rw [gE hq,← hb]
 simp only
 rw [← aCc hK hbv,hpc]
 have hBl:=gT x b.v b.v.length
 have hr0:((iQ x b.v b.v.length).set p (jK (n+1:Nat))).length=x.cols.length:=by rw [List.length_set,hBl,hbv]
 have hset:(((iQ x b.v b.v.length).map V.c).set p [.int .i64 1,.int .i64 ((n:Int)+1),.str []])=((iQ x b.v b.v.length).set p (jK (n+1:Nat))).map V.c:=by rw [List.map_set]; rfl
 generalize iQ x b.v b.v.length=BS at *
 generalize BS.set p (jK (n+1:Nat))=r0 at *
 simp [aN,cP,hkl,hgx,hkX,hgl,iG,Tb.c]
 (repeat' first|contradiction|exact .ok|apply And.intro|intro _|(apply gc<;>simp+contextual[hkl,hgx,hkX,hgl]))
 refine aP hct ?_
 simp
 refine aP hfi ?_
 simp [hkX,hgl,iG,hq,hgb,Bk.c]
 (repeat' first|contradiction|exact .ok|apply And.intro|intro _|(apply gc<;>simp+contextual[hkX,hgl,iG,hq,hgb,Bk.c]))
 refine eM [] hva (by simp) (by simp) (by simp) (by simp) (by simp) (by simp) (by simp [Tb.a,Tb.c,Bk.c]) ?_
 simp [hip,hpv,hwn,hBl,V.c,hset]
 (repeat' first|contradiction|exact .ok|apply And.intro|intro _|(apply gc<;>simp+contextual[hip,hpv,hwn,hBl]))
 refine aL aW (fun f:Nat=>{ s:=cE [(2,.d (.int .i64 k)),(4,.ptr 4 0 0),(5,.ptr 5 0 0),(9,.ptr 9 0 0),(11,.d (.int .i64 j)),(13,.ptr 13 0 0),(14,.ref 914 0 b.v.length 3),(15,.d (.int .i64 f))],b:=cC [(4,4,.var [.d (.sl (S.map Tb.c))]),(5,5,.var [.d (.sl (X.map iG))]),(9,9,.var (x.c.map AV.d)),(13,13,.var (b.c.map AV.d)),(914,914,.arr 92 3 ((fW S (dN X) b j (x.fk.take f) 0 r0).map V.c) false)] }) (fun f=>f≤x.fk.length) (fun f=>x.fk.length - f) 0 (by simp)
  (sM _ [(4,4,_),(5,5,_),(9,9,_),(13,13,_),(914,48000,_)] (by simp [aB,Blk.live,Tb.c,Bk.c,fW,hip]) (by simp [aB])) ?_
 intro f hf
 have hRl:(fW S (dN X) b j (x.fk.take f) 0 r0).length=x.cols.length:=by rw [mP]; exact hr0
 by_cases hlf:f<x.fk.length
 ·obtain ⟨g,hg⟩:∃ g,g=x.fk[f]:=⟨_,rfl⟩
  have hgm:g∈x.fk:=by rw [hg]; exact List.getElem_mem hlf
  have hgg:∀ h,x.fk[f]'h=g:=fun _=>hg.symm
  have hpf:f<b.p.length:=by omega
  obtain ⟨to,l',i,u,e1,e2,e3,e4,e5⟩:=hbpar f g b.p[f] (by rw [gE hlf,hg]) (gE hpf)
  have hgp:∀ h,b.p[f]'h=(i:Int):=fun _=>e3
  have htN:eR S g=to:=by unfold eR; rw [e1]; rfl
  have hfn:dN X (eR S g)=l':=by rw [htN]; unfold dN; rw [e2]; rfl
  obtain ⟨hil,hu⟩:=List.getElem?_eq_some_iff.1 e4
  obtain ⟨htX,hl'⟩:=List.getElem?_eq_some_iff.1 e2
  have hgl':∀ h,X[to]'h=l':=fun _=>hl'
  obtain ⟨b1,b2⟩:=h.bl l' (by rw [← hl']; exact List.getElem_mem htX)
  have hic:i<(aX l').length:=by rw [eD]; exact hil
  have hi0:0<(aX l')[i]:=by
   have:(aX l')[i]=u.n:=by simp [aX,hu]
   omega
  have hct':=qF l' b1
  have htg:=TD (aX l') (by rw [eD]; exact b1) b2 i j hic hi0 (by omega)
  have htl:=AG (j:=j) hic hi0
  obtain ⟨c,hce,hcl,_⟩:=hK.fk g hgm
  have hig:aD g.cols=[[.int .i64 c]]:=by rw [hce]; rfl
  have hgc:(eA g.cols).toNat=c:=by rw [hce]; simp [eA]
  have hsn:fW S (dN X) b j (x.fk.take (f+1)) 0 r0=(fW S (dN X) b j (x.fk.take f) 0 r0).set c (jK (sB (aX l') i j+1:Nat)):=by
   rw [bI hlf,xZ,← hg,hgc,hfn,Nat.zero_add,List.length_take,Nat.min_eq_left (by omega),gE hpf,e3]
   rfl
  generalize sB (aX l') i j=t at *
  have hwf:=wI (n:=(f:Int)+1)
  have hwt:=wI (n:=(t:Int)+1)
  have hset2:(((fW S (dN X) b j (x.fk.take f) 0 r0).map V.c).set c [.int .i64 1,.int .i64 ((t:Int)+1),.str []])=(fW S (dN X) b j (x.fk.take (f+1)) 0 r0).map V.c:=by rw [hsn,List.map_set]; rfl
  have hta:=gH S hfew h.ok hkl hgx0 hlf rfl
  rw [← hg,cN (show aV (fun y:Tb=>y.n==g.t) S 0=to from e1)] at hta
  generalize fW S (dN X) b j (x.fk.take f) 0 r0=R at *
  have hcb:c<b.v.length:=by omega
  have hRb:R.length=b.v.length:=by omega
  simp [hlf,Tb.c]
  (repeat' first|contradiction|exact .ok|apply And.intro|intro _|(apply gc<;>simp+contextual))
  refine aA hta (by simp [aN]) ?_
  simp [htX,hgl',iG,Bk.c]
  (repeat' first|contradiction|exact .ok|apply And.intro|intro _|(apply gc<;>simp+contextual[htX,hgl',hpf,hgp]))
  refine aP hct' ?_
  simp [hpf,hgp]
  (repeat' first|contradiction|exact .ok|apply And.intro|intro _|(apply gc<;>simp+contextual[hpf,hgp]))
  refine aP htg ?_
  simp [hlf,hgg,Fk.c,hig,hwt,hRl,hcl,hbv,V.c]
  (repeat' first|contradiction|exact .ok|apply And.intro|intro _|(apply gc<;>simp+contextual[hlf,hgg,Fk.c,hig,hwt,hRl,hcl,hbv]))
  refine ⟨f+1,by omega,?_,by simp; omega⟩
  exact sM _ [(4,4,_),(5,5,_),(9,9,_),(13,13,_),(914,914,_)] (by simp [aB,Blk.live,hset2]) (by simp [aB,hwf,hbv])
 obtain rfl:f=x.fk.length:=by omega
 rw [List.take_length] at *
 have htk:((fW S (dN X) b j x.fk 0 r0).map V.c).take x.cols.length=(fW S (dN X) b j x.fk 0 r0).map V.c:=List.take_of_length_le (by simp [hRl])
 simp [hbv,hRl,Tb.c]
 (repeat' first|contradiction|exact .ok|apply And.intro|intro _|(apply gc<;>simp+contextual))
 try simp [htk]
theorem aEA {S:List Tb} {X:List (List Bk)} (h:jS S X) (hpl:Cf Es 61 [aN S] [] (.d (.bool true)) []) {k:Nat} {x:Tb} {l:List Bk} (hk:S[k]?=some x) (hl:X[k]?=some l) (hK:iV x) {n:Nat} (hn:n<bD (aX l)) :
  Cf Es 30 [aN S,cP X,.d (.int .i64 k),.d (.int .i64 n)] [] (.tup [.d (.sl ((qS S (dN X) x l n).map V.c)),.d (.int .i64 0)]) []:=by
 refine cI bM (fn:=Tryz.f30) rfl ?_
 have hva:=HA h hpl
 have hlm:l∈X:=List.mem_of_getElem? hl
 have hkS:k<S.length:=(List.getElem?_eq_some_iff.1 hk).1
 obtain ⟨hl1,hl2⟩:=h.bl l hlm
 have hsz:=eG (DM X k l hl hl1 hl2 (by have:=h.few; have:=h.len; omega))
 have hrow:=eG (aEz h hk hl hK hn)
 have h0:¬ (n:Int)<0:=by omega
 have h1:¬ (bD (aX l):Int)≤n:=by omega
 have h2:¬ bD (aX l)≤n:=by omega
 have k0:¬ (k:Int)<0:=by omega
 have k1:¬ (S.length:Int)≤k:=by omega
 have k1n:¬ S.length≤k:=by omega
 generalize qS S (dN X) x l n=r at *
 generalize bD (aX l)=M at *
 simp [aN,cP]
 (repeat' first|contradiction|exact .ok|apply And.intro|intro _|(apply gc<;>simp+contextual))
 refine aA hva (by simp [aN,cP]) ?_
 simp [h0,k0,k1]
 (repeat' first|contradiction|exact .ok|apply And.intro|intro _|(apply gc<;>simp+contextual[h0,k0,k1,k1n]))
 refine aA hsz (by simp [cP]) ?_
 simp [h1]
 (repeat' first|contradiction|exact .ok|apply And.intro|intro _|(apply gc<;>simp+contextual[h0,h1,h2]))
 refine aA hrow (by simp [aN,cP]) ?_
 simp
 all_goals exact gz
theorem aCd (l:List Int) (hl:l.length≤100000):Cf En 76 [.d (.sl (aD l)),.d (.sl (aD l))] [] (.d (.bool true)) []:=by
 refine cI aW (fn:=Tryz.f76) rfl ?_
 simp
 (repeat' first|contradiction|exact .ok|apply And.intro|intro _|(apply gc<;>simp+contextual))
 refine aL aW (fun i:Nat=>{ s:=cE [(0,.d (.sl (aD l))),(1,.d (.sl (aD l))),(5,.d (.int .i64 i))],b:=cC [] }) (fun i=>i≤l.length) (fun i=>l.length - i) 0 (by simp) (aI _ [] .nil (by simp)) ?_
 intro i hi
 by_cases hlt:i<l.length
 ·have hw:=wI (n:=(i:Int)+1)
  simp [hlt]
  (repeat' first|contradiction|exact .ok|apply And.intro|intro _|(apply gc<;>simp+contextual))
  refine ⟨i+1,by omega,?_,by simp; omega⟩
  exact aI _ [] .nil (by simp [hw])
 obtain rfl:i=l.length:=by omega
 simp
 all_goals exact gz
def saF (X:List (List Bk)) (l:List (Nat×AV)):St:={ s:=cE ([(2,.ptr 2 0 0),(3,.ptr 3 0 0)]++l),b:=cC [(2,2,.var [.d (.sl (X.map iG))]),(3,3,.var [.d (.sl (X.map iG))])] }
theorem aCe (X:List (List Bk)) (hX:X.length≤1000) (hl:∀ l∈X,l.length≤1000∧∀ b∈l,b.v.length≤1000∧b.p.length≤1000):Cf En 36 [cP X,cP X] [] (.d (.bool true)) []:=by
 refine cI aW (fn:=Tryz.f36) rfl ?_
 simp [cP]
 (repeat' first|contradiction|exact .ok|apply And.intro|intro _|(apply gc<;>simp+contextual))
 refine aL aW (fun i:Nat=>saF X [(5,.d (.int .i64 i))]) (fun i=>i≤X.length) (fun i=>X.length - i) 0 (by simp) (sM _ [(2,2,_),(3,3,_)] (by simp [aB,Blk.live]) (by simp [aB])) ?_
 intro i hi
 by_cases hlt:i<X.length
 ·have hw:=wI (n:=(i:Int)+1)
  obtain ⟨l,hle⟩:∃ l,l=X[i]:=⟨_,rfl⟩
  have hgl:∀ h,X[i]'h=l:=fun _=>hle.symm
  obtain ⟨l1,l2⟩:=hl l (by rw [hle]; exact List.getElem_mem hlt)
  simp [saF,hlt,hgl,iG]
  (repeat' first|contradiction|exact .ok|apply And.intro|intro _|(apply gc<;>simp+contextual))
  refine aL aW (fun k:Nat=>saF X [(5,.d (.int .i64 i)),(6,.d (.int .i64 k))]) (fun k=>k≤l.length) (fun k=>l.length - k) 0 (by simp) (sM _ [(2,2,_),(3,3,_)] (by simp [aB,Blk.live]) (by simp [aB])) ?_
  intro k hk
  by_cases hkl:k<l.length
  ·have hwk:=wI (n:=(k:Int)+1)
   obtain ⟨b,hbe⟩:∃ b,b=l[k]:=⟨_,rfl⟩
   have hgb:∀ h,l[k]'h=b:=fun _=>hbe.symm
   obtain ⟨b1,b2⟩:=l2 b (by rw [hbe]; exact List.getElem_mem hkl)
   have hc:=AE b.v b.v (by omega) (by omega)
   rw [lM] at hc
   have hs:=aCd b.p (by omega)
   simp [saF,hlt,hgl,iG,hkl,hgb,Bk.c]
   (repeat' first|contradiction|exact .ok|apply And.intro|intro _|(apply gc<;>simp+contextual))
   refine aP hc ?_
   simp
   (repeat' first|contradiction|exact .ok|apply And.intro|intro _|(apply gc<;>simp+contextual))
   refine aP hs ?_
   simp
   (repeat' first|contradiction|exact .ok|apply And.intro|intro _|(apply gc<;>simp+contextual))
   refine ⟨k+1,by omega,?_,by simp; omega⟩
   exact sM _ [(2,2,_),(3,3,_)] (by simp [aB,Blk.live]) (by simp [aB,hwk])
  obtain rfl:k=l.length:=by omega
  simp [saF,hlt,hgl,iG]
  (repeat' first|contradiction|exact .ok|apply And.intro|intro _|(apply gc<;>simp+contextual))
  refine ⟨i+1,by omega,?_,by simp; omega⟩
  exact sM _ [(2,2,_),(3,3,_)] (by simp [aB,Blk.live]) (by simp [aB,hw])
 obtain rfl:i=X.length:=by omega
 simp [saF]
 all_goals exact gz
def scT (X:List (List Bk)) (n:Nat) (j:Nat):List Bk:=(dN X j).map (mW n)
theorem aEB (X:List (List Bk)) (n:Nat):aO (scT X n) X.length=sW n X:=by
 apply List.ext_getElem?
 intro j
 rw [bE]
 unfold sW
 rw [List.getElem?_map]
 split
 ·rename_i h
  unfold scT dN
  rw [gE h]
  rfl
 ·rename_i h
  rw [List.getElem?_eq_none (by omega)]
  rfl
theorem YY {S:List Tb} {X:List (List Bk)} (h:jS S X) (hpl:Cf Es 61 [aN S] [] (.d (.bool true)) []) (n:Nat) (hn:1≤n∧n≤10000000) (hfit:∀ l∈X,bD (aX l)≤100) :
  Cf Es 32 [aN S,cP X,.d (.int .i64 n)] [] (.tup [cP (sW n X),.d (.int .i64 0)]) []:=by
 have hva:=HA h hpl
 have hfew:=h.few
 have hXl:=h.len
 have hn1:¬ (n:Int)<1:=by omega
 obtain ⟨Q,hQ,hQ2⟩:∃ Q:Int,(1000000000:Int).tdiv n=Q∧100≤Q∧Q≤1000000000:=by
  refine ⟨((1000000000 / n:Nat):Int),by rw [Int.tdiv_eq_ediv_of_nonneg (by omega)]; exact (Int.natCast_ediv 1000000000 n).symm ▸ rfl,?_,?_⟩
  ·have:100≤1000000000 / n:=by rw [Nat.le_div_iff_mul_le (by omega)]; omega
   omega
  ·have:=Nat.div_le_self 1000000000 n
   omega
 have hwQ:=wI (n:=Q)
 have hn0:¬ (n:Int)=0:=by omega
 have hn0n:¬ n=0:=by omega
 have hsz2:=(mk8 X.length (by omega)).1
 have hsz3:24*(X.length:Int)≤281474976710656:=by omega
 rw [← aEB]
 refine cI bM (fn:=Tryz.f32) rfl ?_
 simp [aN,cP] at hva ⊢
 (repeat' first|contradiction|exact .ok|apply And.intro|intro _|(apply gc<;>simp+contextual))
 refine aP hva ?_
 simp [hn1]
 (repeat' first|contradiction|exact .ok|apply And.intro|intro _|(apply gc<;>simp+contextual[hn1]))
 refine aL bM (fun k:Nat=>LG S X n [(9,.d (.int .i64 k))] []) (fun k=>k≤X.length) (fun k=>X.length - k) 0 (by simp)
  (sM _ [(4,4,_),(6,6,_)] (by simp [aB,Blk.live]) (by simp [aB])) ?_
 intro k hk
 by_cases hkl:k<X.length
 ·have hl:=gE hkl
  obtain ⟨hl1,hl2⟩:=h.bl X[k] (List.getElem_mem hkl)
  have hl3:=hfit X[k] (List.getElem_mem hkl)
  have hsz:=eG (DM X k X[k] hl hl1 hl2 (by omega))
  have hw:=wI (n:=(k:Int)+1)
  generalize bD (aX X[k])=M at *
  have hMQ:¬ Q<(M:Int):=by omega
  simp [LG,hkl]
  (repeat' first|contradiction|exact .ok|apply And.intro|intro _|(apply gc<;>simp+contextual))
  refine aA hsz (by simp [cP]) ?_
  simp [hn0n,hQ,hwQ,hMQ]
  (repeat' first|contradiction|exact .ok|apply And.intro|intro _|(apply gc<;>simp+contextual[hn0,hn0n,hQ,hwQ,hMQ]))
  refine ⟨k+1,by omega,?_,by simp; omega⟩
  exact sM _ [(4,4,_),(6,6,_)] (by simp [aB,Blk.live]) (by simp [aB,hw])
 obtain rfl:k=X.length:=by omega
 clear hk hkl
 have hTl:∀ j (l:List Bk),dN X j=l→scT X n j=l.map (mW n):=fun j l e=>by unfold scT; rw [e]
 obtain ⟨T,hT⟩:∃ T,T=scT X n:=⟨_,rfl⟩
 rw [← hT] at hTl ⊢
 simp [LG,hsz2,hsz3]
 (repeat' first|contradiction|exact .ok|apply And.intro|intro _|(apply gc<;>simp+contextual))
 refine xA bM (by decide) (fun o:Nat=>LG S X n [(10,.ptr 10 0 0),(11,.d (.int .i64 o))] [(10,10,.var [.ref 901 0 X.length 1]),(901,901,.varr 103 1 (aO (DX T o) X.length))])
  (fun o=>o≤X.length) (fun o=>X.length - o) 0 (by simp) 2
  { s:=cE [(6,.ptr 6 0 0),(10,.ptr 10 0 0)],b:=cC [(6,6,.var [.nils]),(10,10,.var [.ref 901 0 X.length 1]),(901,901,.arr 103 1 (aO (fun j=>[.sl ((T j).map Bk.c)]) X.length) false)] }
  ((lX 42 (m:=X.length) (ety:=103) (by simp [EM])).trans (sM _ [(4,4,_),(6,6,_),(10,10,_),(901,42,_)] (by simp [aB,Blk.live,PE]) (by simp [aB]))) ?_ ?_
 rotate_left
 ·have htk:∀ f:Nat→List D,(aO f X.length).take X.length=aO f X.length:=fun f=>List.take_of_length_le (by simp)
  simp [htk,dB,iG]
  (repeat' first|contradiction|exact .ok|apply And.intro|intro _|(apply gc<;>simp+contextual))
  all_goals (try simp [htk,dB,iG])
 intro o ho
 by_cases hol:o<X.length
 ·obtain ⟨l,hl⟩:∃ l,l=X[o]:=⟨_,rfl⟩
  have hgl:∀ h,X[o]'h=l:=fun _=>hl.symm
  have hlm:l∈X:=by rw [hl]; exact List.getElem_mem hol
  have hfl:dN X o=l:=by unfold dN; rw [gE hol,hl]; rfl
  have hTo:=hTl o l hfl
  obtain ⟨hl1,hl2⟩:=h.bl l hlm
  have hl3:=hfit l hlm
  have hkS:o<S.length:=by omega
  have hblk:=h.blk o S[o] l (gE hkS) (by rw [gE hol,hl])
  have hxo:=h.ok S[o] (List.getElem_mem hkS)
  have hwo:=wI (n:=(o:Int)+1)
  have hci:(aO (DX T o) X.length)[o]?=some [.nils]:=by
   rw [bE,if_pos hol]
   unfold DX ZM
   rw [if_neg (by omega)]
  have hset0:(aO (DX T o) X.length).set o [.ref 905 0 0 3]=aO (EK T o (.ref 905 0 0 3)) X.length:=by rw [← WC,AJ]
  simp [LG,hol]
  (repeat' first|contradiction|exact .ok|apply And.intro|intro _|(apply gc<;>simp+contextual[hol]))
  refine aL bM (fun k:Nat=>LG S X n [(10,.ptr 10 0 0),(11,.d (.int .i64 o)),(12,.d (.int .i64 k))] [(10,10,.var [.ref 901 0 X.length 1]),(901,901,.varr 103 1 (aO (EK T o (.ref 905 0 k 3)) X.length)),(905,905,.arr 99 3 (((l.take k).map (mW n)).map Bk.c) false)]) (fun k=>k≤l.length) (fun k=>l.length - k) 0 (by simp)
   ((jF 901 905 99 3 o (ety2:=103) (sz2:=1) (cells:=aO (DX T o) X.length) (by simp) hci (by simp) (by decide) (by decide)).trans (sM _ [(4,4,_),(6,6,_),(10,10,_),(901,901,_),(905,905,_)] (by simp [aB,Blk.live,hset0,kH,dP]) (by simp [aB]))) ?_
  intro k hk
  have hZl:((l.take k).map (mW n)).length=k:=by simp; omega
  have hcx:∀ hh,(aO (EK T o (.ref 905 0 k 3)) X.length)[o]'hh=[.ref 905 0 k 3]:=fun hh=>by rw [xN hol]; unfold EK; rw [if_pos rfl]
  by_cases hkl:k<l.length
  ·obtain ⟨b,hb⟩:∃ b,b=l[k]:=⟨_,rfl⟩
   have hgb:∀ h,l[k]'h=b:=fun _=>hb.symm
   have hbm:b∈l:=by rw [hb]; exact List.getElem_mem hkl
   have hB:=hblk b hbm
   have hbv:=hB.v
   have hbp:=hB.p
   have hxc:=hxo.cols
   have hxf:=hxo.fk
   have hbs:=VY hbm
   have hmul:b.n*n≤1000000000:=by
    have:=Nat.mul_le_mul (Nat.le_trans hbs hl3) hn.2
    omega
   have hwm:IntKind.i64.wrap ((b.n:Int)*n)=((b.n*n:Nat):Int):=by
    rw [show (b.n:Int)*n=((b.n*n:Nat):Int) from by simp]
    exact bL (by omega) (by omega)
   have hwk:=wI (n:=(k:Int)+1)
   have hsz:(l.take (k+1)).map (mW n)=(l.take k).map (mW n)++[mW n b]:=by rw [bI hkl,List.map_append,← hb]; rfl
   have hsc:(mW n b).c=[.int .i64 ((b.n*n:Nat):Int),.sl (b.v.map V.c),.sl (aD b.p)]:=rfl
   generalize hPn:b.n*n=P at *
   generalize (l.take k).map (mW n)=Z at *
   have htZ:(Z.map Bk.c).take k=Z.map Bk.c:=List.take_of_length_le (by simp [hZl])
   have htV:(b.v.map V.c).take b.v.length=b.v.map V.c:=List.take_of_length_le (by simp)
   have hIl:(aD b.p).length=b.p.length:=by simp [aD]
   have htI:(aD b.p).take b.p.length=aD b.p:=List.take_of_length_le (by omega)
   have hc3:∀ u:V,u.c.length=3:=fun _=>rfl
   have hi1:=NF b.p
   simp [LG,hol,hgl,iG,hkl,hgb,Bk.c]
   (repeat' first|contradiction|exact .ok|apply And.intro|intro _|(apply gc<;>simp+contextual[hol,hgl,hkl,hgb]))
   simp [hwm]
   (repeat' first|contradiction|exact .ok|apply And.intro|intro _|(apply gc<;>simp+contextual))
   simp [gF b.v.length (by omega) 32 (by decide)]
   (repeat' first|contradiction|exact .ok|apply And.intro|intro _|(apply gc<;>simp+contextual))
   rw [if_pos (fun x hx=>hi1 x hx)]
   simp [gF b.p.length (by omega) 8 (by decide)]
   (repeat' first|contradiction|exact .ok|apply And.intro|intro _|(apply gc<;>simp+contextual))
   simp [hcx,hol,hZl,htV,htI,hIl,gF (k+1) (by omega) 56 (by decide)]
   (repeat' first|contradiction|exact .ok|apply And.intro|intro _|(apply gc<;>simp+contextual))
   refine ⟨k+1,by omega,?_,by simp; omega⟩
   simp only [hsz]
   exact sM _ [(4,4,_),(6,6,_),(10,10,_),(901,901,_),(905,96,_)] (by simp [aB,Blk.live,AJ,kH,dP,hsc]) (by simp [aB,hwk])
  obtain rfl:k=l.length:=by omega
  rw [List.take_length] at *
  have htZ:((l.map (mW n)).map Bk.c).take l.length=(l.map (mW n)).map Bk.c:=List.take_of_length_le (by simp)
  have hdn:=PD (T:=T) (o:=o) (R:=l.map (mW n))
  have hup:bP T o (l.map (mW n))=T:=by
   funext j
   unfold bP
   split
   ·rename_i e; rw [e,hTo]
   ·rfl
  rw [hup] at hdn
  generalize hZ:l.map (mW n)=Z at *
  simp [LG,hol,hgl,iG]
  (repeat' first|contradiction|exact .ok|apply And.intro|intro _|(apply gc<;>simp+contextual))
  refine ⟨o+1,by omega,?_,by simp; omega⟩
  refine sM _ [(4,4,_),(6,6,_),(10,10,_),(901,901,_)] (?_) (by simp [aB,hwo])
  simp [aB,Blk.live,kH,dP,EJ,htZ,hZl,hdn]
 obtain rfl:o=X.length:=by omega
 simp [LG]
 (repeat' first|contradiction|exact .ok|apply And.intro|intro _|(apply gc<;>simp+contextual))
 refine AExitTo.mk rfl ?_
 have hdt:Sub Es 99 0 { s:=cE [(6,.ptr 6 0 0),(10,.ptr 10 0 0)],b:=cC [(6,6,.var [.nils]),(10,10,.var [.ref 901 0 X.length 1]),(901,901,.varr 103 1 (aO (DX T X.length) X.length))] }
   { s:=cE [(6,.ptr 6 0 0),(10,.ptr 10 0 0)],b:=cC [(6,6,.var [.nils]),(10,10,.var [.ref 901 0 X.length 1]),(901,901,.arr 103 1 (aO (fun j=>[.sl ((T j).map Bk.c)]) X.length) false)] }:=by
  refine (zO 901 (ety:=103) (xs:=aO (DX T X.length) X.length) (aO (fun j=>[.sl ((T j).map Bk.c)]) X.length) (by simp) (by simp) ?_).trans (sM _ [(6,6,_),(10,10,_),(901,901,_)] (by simp [aB,Blk.live]) (by simp [aB]))
  intro j x y hx hy
  rw [bE] at hx hy
  split at hx <;> simp only [Option.some.injEq,reduceCtorEq] at hx
  rename_i hj
  rw [if_pos hj,Option.some.injEq] at hy
  subst hx hy
  refine ⟨_,_,rfl,rfl,?_⟩
  unfold ZM
  rw [if_pos hj]
  rfl
 refine .trans ?_ hdt
 exact sM _ [(6,6,_),(10,10,_),(901,901,_)] (by simp [aB,Blk.live,aCF]) (by simp [aB])
theorem EB (L:List Int) (m:Int) (hm0:0≤m) (hm1:m<4294967296) :
  Cf Es 7 [.d (.sl (aD L)),.d (.int .u32 m)] [] (.d (.bool true)) []:=by
 refine cI bM (fn:=Tryz.f7) rfl ?_
 have hpl:=eG (KG L 0 (by omega))
 obtain ⟨N,hN⟩:∃ N,N=(1+aS L 0 3).toNat:=⟨_,rfl⟩
 have hn3:=bB L 0 (n:=3) (by omega)
 rw [← hN] at hpl
 have hN3:N≤3:=by omega
 have hN1:0<N:=by omega
 have hbl:=rX L (0+1) N
 have hfree:=eG (aBq (bS L (0+1) N).1 (by rw [dU]; omega))
 have hSl:(fZ (bS L (0+1) N).1).length=N:=by rw [oP,dU]
 obtain ⟨b,hb⟩:∃ b,b=(bS L (0+1) N).2:=⟨_,rfl⟩
 have hW:=HW L N (by omega) 4 5 b (by omega) (by omega) (by omega)
 have hsu:=eG (HL L (fZ (bS L (0+1) N).1) hW.fill hW.dec 4 5 (by omega) (by omega) (by omega) b (by omega))
 have hpos:=(AI L hW.fill (blocks:=4) (by omega) (most:=5) (a:=b) (fZ (bS L (0+1) N).1).length).1
 have hMade:=HO L (0+1) N
 have hNm:=WH L (0+1) N (by omega)
 obtain ⟨S,hS⟩:∃ S,S=fZ (bS L (0+1) N).1:=⟨_,rfl⟩
 rw [← hS] at hW hsu hfree hpos hSl hMade hNm
 rw [← hb] at hpl hbl
 generalize (bS L (0+1) N).1=S0 at *
 obtain ⟨T,e0,hT⟩:∃ T e0,nZ L S 4 5 b S.length=(T,e0):=⟨_,_,rfl⟩
 rw [hT] at hW hsu hpos
 simp only at hW hsu hpos
 clear hS hb hT
 have hSum:=hW.sumok
 have hfn:=AL hW.out
 have hPlain:=EE hW.fill.ok
 have hPlainR:=EF hW.fill.ok
 rw [hW.pln] at hPlain hPlainR
 have hXm:∀ l∈aO T S.length,bD (aX l)≤100:=fun l hl=>by
  obtain ⟨j,_,rfl⟩:=fE.1 hl
  have:=(hW.sum j).2
  omega
 have hXat:∀ k,k<S.length→(aO T S.length)[k]?=some (T k):=fun k hk=>by rw [bE,if_pos hk]
 have hview:=eG (SO L e0 (by omega) S (by omega) (by omega) hMade hW.dec hNm)
 obtain ⟨l,hvo⟩:=KA L e0 (by omega) (by omega) hMade hW.dec hNm
 generalize rU L S e0=vv at *
 obtain ⟨v,e1⟩:=vv
 simp only at hview hvo
 obtain ⟨n,hn⟩:∃ n:Nat,(n:Int)=1+m.tmod 10000000:=⟨(1+m.tmod 10000000).toNat,by
  have:=Int.tmod_nonneg (b:=10000000) hm0; omega⟩
 have hn2:1≤n∧n≤10000000:=by
  have h1:=Int.tmod_nonneg (b:=10000000) hm0
  have h2:=Int.tmod_lt_of_pos m (b:=10000000) (by omega)
  omega
 have hc3:∀ x∈S,x.cols.length≤300:=fun x hx=>by have:=hW.fill.cols x hx; omega
 have hsc:=aEM hSum hPlain n hn2 hXm
 have hrs:=YY hSum hPlainR n hn2 hXm
 have hSumY:=aCp hSum hn2 hXm
 have hcx:=JK hSum hPlain hc3 hvo
 have hcy:=JK hSumY hPlain hc3 hvo
 have hvy:=wN hSumY hPlain
 have hle:=zS (S:=S) (X:=dN (aO T S.length)) (l:=l) (v:=v) (L:=dN (aO T S.length) ((l[0]?).getD 0))
 rw [aCq,VZ] at hcy
 have hsy:=eG (aCe (sW n (aO T S.length)) (by rw [hSumY.len]; have:=hSumY.few; omega) (fun q hq=>by
  refine ⟨by have:=(hSumY.bl q hq).1; omega,fun c hc=>?_⟩
  obtain ⟨k,hk⟩:=List.mem_iff_getElem?.1 hq
  have hkl:k<S.length:=by have:=(List.getElem?_eq_some_iff.1 hk).1; rw [hSumY.len] at this; exact this
  have hB:=hSumY.blk k S[k] q (gE hkl) hk c hc
  have h1:=hB.v
  have h2:=hB.p
  have h3:=(hSumY.ok _ (List.getElem_mem hkl)).cols
  have h4:=(hSumY.ok _ (List.getElem_mem hkl)).fk
  omega))
 have hsxk:=hW.sum
 have hYat:∀ k,k<S.length→(sW n (aO T S.length))[k]?=some ((T k).map (mW n)):=fun k hk=>by unfold sW; rw [List.getElem?_map,hXat k hk]; rfl
 have hSz:=fun k (hk:k<S.length)=>eG (DV (sW n (aO T S.length)) k ((T k).map (mW n)) (hYat k hk) (hSumY.bl _ (List.mem_of_getElem? (hYat k hk))).1 (hSumY.bl _ (List.mem_of_getElem? (hYat k hk))).2 (by rw [hSumY.len]; omega))
 have hRz:=fun k (hk:k<S.length)=>eG (DM (aO T S.length) k (T k) (hXat k hk) (hSum.bl _ (List.mem_of_getElem? (hXat k hk))).1 (hSum.bl _ (List.mem_of_getElem? (hXat k hk))).2 (by rw [hSum.len]; omega))
 have hRo:=fun k (hk:k<S.length) (r:Nat) (hr:r<bD (aX ((T k).map (mW n))))=>aIh hSumY hPlain hW.tg (gE hk) (hYat k hk) (hW.key _ (List.getElem_mem hk)) hr
 have hRr:=fun k (hk:k<S.length) (r:Nat) (hr:r<bD (aX ((T k).map (mW n))))=>aEA hSumY hPlainR (gE hk) (hYat k hk) (hW.key _ (List.getElem_mem hk)) hr
 have hRl:=fun k (hk:k<S.length) (r:Nat)=>aCK hSumY (gE hk) (hYat k hk) r
 have hSc:∀ k (hk:k<S.length),S[k].cols.length≤300:=fun k hk=>hc3 _ (List.getElem_mem hk)
 have hms:∀ k,bD (aX ((T k).map (mW n)))=bD (aX (T k))*n:=fun k=>TH n (T k)
 have hYl:=hSumY.len
 have hXl:=hSum.len
 have hl0:bD (aX (dN (aO T S.length) ((l[0]?).getD 0)))≤100:=by
  rw [hfn]
  have:=(hsxk ((l[0]?).getD 0)).2
  omega
 generalize pU S (dN (aO T S.length)) l v (dN (aO T S.length) ((l[0]?).getD 0))=cv at *
 have hcv:cv≤100:=by omega
 generalize dN (sW n (aO T S.length))=FY at *
 generalize sW n (aO T S.length)=Y at *
 generalize aO T S.length=X at *
 obtain ⟨P,hP⟩:∃ P,P=cv*n:=⟨_,rfl⟩
 have hwP:IntKind.i64.wrap ((cv:Int)*n)=P:=by
  have h1:=Nat.mul_le_mul hcv hn2.2
  rw [show (cv:Int)*n=((cv*n:Nat):Int) from by simp,← hP]
  exact bL (by omega) (by omega)
 rw [← hP] at hcy
 clear hSum hSumY hW hvo hPlain hPlainR hXm hXat hYat
 simp [aQ] at hpl ⊢
 (repeat' first|contradiction|exact .ok|apply And.intro|intro _|(apply gc<;>simp+contextual))
 refine aH [26] hpl (by simp [aD]) (by simp) ?_
 simp
 (repeat' first|contradiction|exact .ok|apply And.intro|intro _|(apply gc<;>simp+contextual))
 refine aA hfree (by simp [aN]) ?_
 simp [aN]
 (repeat' first|contradiction|exact .ok|apply And.intro|intro _|(apply gc<;>simp+contextual))
 simp [aQ,aN] at hsu hview
 refine aH [26] hsu (by simp) (by simp) ?_
 simp [cP]
 (repeat' first|contradiction|exact .ok|apply And.intro|intro _|(apply gc<;>simp+contextual))
 refine aH [26] hview (by simp) (by simp) ?_
 simp [Vw.a,Vw.c]
 (repeat' first|contradiction|exact .ok|apply And.intro|intro _|(apply gc<;>simp+contextual))
 have hmw:=wI (n:=m)
 have hw1:=wI (n:=1+m.tmod 10000000)
 have hwn:=wI (n:=(n:Int))
 simp [hmw,hwn,← hn]
 (repeat' first|contradiction|exact .ok|apply And.intro|intro _|(apply gc<;>simp+contextual))
 refine aA hsc (by simp [aN,cP]) ?_
 simp [cP]
 (repeat' first|contradiction|exact .ok|apply And.intro|intro _|(apply gc<;>simp+contextual))
 refine aA hrs (by simp [aN,cP]) ?_
 simp [cP]
 (repeat' first|contradiction|exact .ok|apply And.intro|intro _|(apply gc<;>simp+contextual))
 refine aA hsy (by simp [cP]) ?_
 simp
 (repeat' first|contradiction|exact .ok|apply And.intro|intro _|(apply gc<;>simp+contextual))
 refine aA hcx (by simp [aN,cP,Vw.a,Vw.c]) ?_
 simp
 (repeat' first|contradiction|exact .ok|apply And.intro|intro _|(apply gc<;>simp+contextual))
 refine aA hcy (by simp [aN,cP,Vw.a,Vw.c]) ?_
 simp [hwP]
 (repeat' first|contradiction|exact .ok|apply And.intro|intro _|(apply gc<;>simp+contextual[hwP]))
 refine aA hvy (by simp [aN,cP]) ?_
 simp
 (repeat' first|contradiction|exact .ok|apply And.intro|intro _|(apply gc<;>simp+contextual))
 refine aL bM (fun k:Nat=>{ s:=cE [(6,.ptr 6 0 0),(7,.ptr 7 0 0),(9,.d (.int .i64 n)),(10,.ptr 10 0 0),(12,.ptr 12 0 0),(18,.d (.int .i64 k))],b:=cC [(6,6,.var [.d (.sl (S.map Tb.c))]),(7,7,.var [.d (.sl (X.map iG))]),(10,10,.var [.d (.sl (Y.map iG))]),(12,12,.var [.d (.sl (Y.map iG))])] })
  (fun k=>k≤S.length) (fun k=>S.length - k) 0 (by simp) (sM _ [(6,6,_),(7,7,_),(10,10,_),(12,12,_)] (by simp [aB,Blk.live]) (by simp [aB])) ?_
 intro k hk
 by_cases hkl:k<S.length
 ·have hsz:=hSz k hkl
  have hrz:=hRz k hkl
  have hro:=hRo k hkl
  have hrr:=hRr k hkl
  have hrl:=hRl k hkl
  have hsc':=hSc k hkl
  have hsk:=(hsxk k).2
  rw [hms] at hsz hro hrr
  obtain ⟨M,hM⟩:∃ M,M=bD (aX (T k)):=⟨_,rfl⟩
  rw [← hM] at hsz hro hrr hrz hsk
  obtain ⟨Q,hQ⟩:∃ Q,Q=M*n:=⟨_,rfl⟩
  rw [← hQ] at hsz hro hrr
  have hQb:Q≤1000000000:=by
   have h1:=Nat.mul_le_mul (show M≤100 by omega) hn2.2
   omega
  have hwQ:IntKind.i64.wrap ((n:Int)*M)=Q:=by
   rw [show (n:Int)*M=((M*n:Nat):Int) from by rw [Nat.mul_comm]; simp,← hQ]
   exact bL (by omega) (by omega)
  have hwk:=wI (n:=(k:Int)+1)
  clear hSz hRz hRo hRr hRl hSc hms hsxk hM hQ
  generalize qS S FY S[k] ((T k).map (mW n))=RN at *
  generalize S[k].cols.length=w at *
  clear hsu hview hsc hrs hsy hcx hcy hvy hpl hfree
  by_cases hq0:Q=0
  ·have hqi:(Q:Int)=0:=by omega
   simp [hkl]
   (repeat' first|contradiction|exact .ok|apply And.intro|intro _|(apply gc<;>simp+contextual))
   refine aA hsz (by simp [cP]) ?_
   simp
   (repeat' first|contradiction|exact .ok|apply And.intro|intro _|(apply gc<;>simp+contextual))
   refine aA hrz (by simp [cP]) ?_
   simp [hwQ,hq0]
   (repeat' first|contradiction|exact .ok|apply And.intro|intro _|(apply gc<;>simp+contextual[hwQ,hqi,hq0]))
   refine ⟨k+1,by omega,?_,by simp; omega⟩
   exact sM _ [(6,6,_),(7,7,_),(10,10,_),(12,12,_)] (by simp [aB,Blk.live]) (by simp [aB,hwk])
  ·have hqi:¬ (Q:Int)=0:=by omega
   obtain ⟨r,hr⟩:∃ r:Nat,r=Q - 1:=⟨_,rfl⟩
   have hri:(Q:Int) - 1=r:=by omega
   have hwr:=wI (n:=(r:Int))
   have hor:=hro r (by omega)
   have hrr':=hrr r (by omega)
   have hrlr:=hrl r
   have hcm:=eG (AE (RN r) (RN r) (by omega) (by omega))
   rw [lM] at hcm
   simp [hkl]
   (repeat' first|contradiction|exact .ok|apply And.intro|intro _|(apply gc<;>simp+contextual))
   refine aA hsz (by simp [cP]) ?_
   simp
   (repeat' first|contradiction|exact .ok|apply And.intro|intro _|(apply gc<;>simp+contextual))
   refine aA hrz (by simp [cP]) ?_
   simp [hwQ,hq0,hri,hwr]
   (repeat' first|contradiction|exact .ok|apply And.intro|intro _|(apply gc<;>simp+contextual[hwQ,hqi,hq0,hri,hwr]))
   refine aA hor (by simp [aN,cP]) ?_
   simp [aGO,hri,hwr]
   (repeat' first|contradiction|exact .ok|apply And.intro|intro _|(apply gc<;>simp+contextual))
   refine aA hrr' (by simp [aN,cP]) ?_
   simp
   (repeat' first|contradiction|exact .ok|apply And.intro|intro _|(apply gc<;>simp+contextual))
   refine aP hcm ?_
   simp
   (repeat' first|contradiction|exact .ok|apply And.intro|intro _|(apply gc<;>simp+contextual))
   refine ⟨k+1,by omega,?_,by simp; omega⟩
   exact sM _ [(6,6,_),(7,7,_),(10,10,_),(12,12,_)] (by simp [aB,Blk.live]) (by simp [aB,hwk])
 obtain rfl:k=S.length:=by omega
 simp
 all_goals exact gz
end Go.Proofs.Tryz
