import Derived.Test.YtkkbepgccddjoaaGreatDoorCRnw
import Derived.Test.YtkkbepgccddjoaaGreatDoorCMvz
import Derived.Test.YtkkbepgccddjoaaGreatDoorCRwc
import Derived.Test.YtkkbepgccddjoaaGreatDoorSms
import Derived.Test.YtkkbepgccddjoaaGreatDoorCSmc
set_option linter.all false
namespace Go.Proofs.Tryz
open Go.Ab
set_option maxRecDepth 100000
set_option maxHeartbeats 8000000
theorem xZ {S:List Tb} {T:Nat→List Bk} {b:Bk} {j:Nat} {g:Fk}:∀ (gs:List Fk) (f:Nat) (r:List V),fW S T b j (gs++[g]) f r=(fW S T b j gs f r).set (eA g.cols).toNat (jK (sB (aX (T (eR S g))) ((b.p[f+gs.length]?).getD 0).toNat j+1:Nat))
 | [],f,r=>by simp [fW]
 | q::gs,f,r=>by
   rw [List.cons_append,fW,fW,xZ gs]
   rw [show f+1+gs.length=f+(q::gs).length from by simp; omega]
theorem aCD {S:List Tb} {X:List (List Bk)} {l:List Fk} {f:Nat} (hf:f<l.length):∀ h,(nY S X l)[f]'h=aX (dN X (eR S l[f])):=fun h=>by
 simp [nY]
theorem aFx {S:List Tb} {X:List (List Bk)} (h:jS S X) {k:Nat} {x:Tb} {l:List Bk} (hk:S[k]?=some x) (hl:X[k]?=some l) (hK:iV x) {n:Nat} (hn:n<bD (aX l)) :
  Cf En 49 [TO S X x l,.d (.int .i64 n)] [] (.d (.sl ((qS S (dN X) x l n).map V.c))) []:=by
 refine cI aW (fn:=Tryz.f49) rfl ?_
 obtain ⟨hkl,hgx0⟩:=List.getElem?_eq_some_iff.1 hk
 obtain ⟨hkX,hgl0⟩:=List.getElem?_eq_some_iff.1 hl
 have hxm:x∈S:=by rw [← hgx0]; exact List.getElem_mem hkl
 have hlm:l∈X:=by rw [← hgl0]; exact List.getElem_mem hkX
 have hxo:=h.ok x hxm
 have hfl:=hxo.fk
 have hcols:=hxo.cols
 obtain ⟨hl1,hl2⟩:=h.bl l hlm
 have hfi:=aGc (aX l) (by rw [eD]; exact hl1) hl2 n hn
 obtain ⟨f1,f2,f3⟩:=lU hn
 have hqn:qS S (dN X) x l n=match l[(eP (aX l) n).1]? with | some b=>qG S (dN X) x b (eP (aX l) n).2 n | none=>[]:=rfl
 rw [hqn]
 generalize (eP (aX l) n).1=q at *
 generalize (eP (aX l) n).2=j at *
 have hq:q<l.length:=by rw [eD] at f1; exact f1
 have hjn:j≤n:=by omega
 obtain ⟨b,hb⟩:∃ b,b=l[q]:=⟨_,rfl⟩
 have hgb:∀ h,l[q]'h=b:=fun _=>hb.symm
 have hbm:b∈l:=by rw [hb]; exact List.getElem_mem hq
 have hB:=h.blk k x l hk hl b hbm
 have hbv:=hB.v
 have hbp:=hB.p
 have hbpar:=hB.par
 have hcl:=vP b.v (by omega)
 obtain ⟨p,hpe,hpl⟩:=hK.pr
 have hip:aD x.pr=[[.int .i64 p]]:=by rw [hpe]; rfl
 have hpc:(eA x.pr).toNat=p:=by rw [hpe]; simp [eA]
 have hpv:p<b.v.length:=by omega
 have hwn:=wI (n:=(n:Int)+1)
 have hnu:=OZ ((n:Int)+1)
 rw [gE hq,← hb]
 simp only
 unfold qG
 rw [hpc]
 have hr0:(b.v.set p (jK (n+1:Nat))).length=x.cols.length:=by rw [List.length_set,hbv]
 have hset:((b.v.map V.c).set p [.int .i64 1,.int .i64 ((n:Int)+1),.str []])=(b.v.set p (jK (n+1:Nat))).map V.c:=by rw [List.map_set]; rfl
 generalize b.v.set p (jK (n+1:Nat))=r0 at *
 simp [TO,Tb.c]
 (repeat' first|contradiction|exact .ok|apply And.intro|intro _|(apply gc<;>simp+contextual))
 refine aP hfi ?_
 simp [hq,hgb,Bk.c]
 (repeat' first|contradiction|exact .ok|apply And.intro|intro _|(apply gc<;>simp+contextual[hq,hgb,Bk.c]))
 refine eM [] hcl (by simp) (by simp) (by simp) (by simp) (by simp) (by simp) (by simp) ?_
 simp [hip,hwn]
 (repeat' first|contradiction|exact .ok|apply And.intro|intro _|(apply gc<;>simp+contextual[hip,hpv,hwn]))
 refine aP hnu ?_
 simp [hpv,V.a]
 (repeat' first|contradiction|exact .ok|apply And.intro|intro _|(apply gc<;>simp+contextual[hip,hpv,hwn]))
 refine aL aW (fun f:Nat=>{ s:=cE [(1,.d (.int .i64 n)),(2,.ptr 2 0 0),(6,.d (.int .i64 j)),(8,.ptr 8 0 0),(9,.ref 905 0 b.v.length 3),(42,.d (.sl (x.fk.map Fk.c))),(43,.d (.int .i64 x.fk.length)),(44,.d (.int .i64 f))],b:=cC [(2,2,.var (x.c.map AV.d++[.d (.sl (l.map Bk.c)),.d (.sl (aD (aJ (aX l)))),.d (.sl ((nY S X x.fk).map FH))])),(8,8,.var (b.c.map AV.d)),(905,905,.arr 92 3 ((fW S (dN X) b j (x.fk.take f) 0 r0).map V.c) false)] }) (fun f=>f≤x.fk.length) (fun f=>x.fk.length - f) 0 (by simp)
  (sM _ [(2,2,_),(8,8,_),(905,30000,_)] (by simp [aB,Blk.live,Tb.c,Bk.c,fW,hip,V.c,hset]) (by simp [aB])) ?_
 intro f hf
 have hRl:(fW S (dN X) b j (x.fk.take f) 0 r0).length=x.cols.length:=by rw [mP]; exact hr0
 by_cases hlf:f<x.fk.length
 ·obtain ⟨g,hg⟩:∃ g,g=x.fk[f]:=⟨_,rfl⟩
  have hgm:g∈x.fk:=by rw [hg]; exact List.getElem_mem hlf
  have hgg:∀ h,x.fk[f]'h=g:=fun _=>hg.symm
  have hpf:f<b.p.length:=by omega
  obtain ⟨to,l',i,u,e1,e2,e3,e4,e5⟩:=hbpar f g b.p[f] (by rw [gE hlf,hg]) (gE hpf)
  have hgp:∀ h,b.p[f]'h=(i:Int):=fun _=>e3
  have htN:eR S g=to:=by unfold eR; rw [e1]; rfl
  have hfn:dN X (eR S g)=l':=by rw [htN]; unfold dN; rw [e2]; rfl
  obtain ⟨hil,hu⟩:=List.getElem?_eq_some_iff.1 e4
  obtain ⟨htX,hl'⟩:=List.getElem?_eq_some_iff.1 e2
  obtain ⟨b1,b2⟩:=h.bl l' (by rw [← hl']; exact List.getElem_mem htX)
  have hic:i<(aX l').length:=by rw [eD]; exact hil
  have hi0:0<(aX l')[i]:=by
   have:(aX l')[i]=u.n:=by simp [aX,hu]
   omega
  have htg:=aBk (aX l') (by rw [eD]; exact b1) b2 i j hic hi0 (by omega)
  have htl:=AG (j:=j) hic hi0
  obtain ⟨c,hce,hcl,_⟩:=hK.fk g hgm
  have hig:aD g.cols=[[.int .i64 c]]:=by rw [hce]; rfl
  have hgc:(eA g.cols).toNat=c:=by rw [hce]; simp [eA]
  have hsn:fW S (dN X) b j (x.fk.take (f+1)) 0 r0=(fW S (dN X) b j (x.fk.take f) 0 r0).set c (jK (sB (aX l') i j+1:Nat)):=by
   rw [bI hlf,xZ,← hg,hgc,hfn,Nat.zero_add,List.length_take,Nat.min_eq_left (by omega),gE hpf,e3]
   rfl
  have hPg:∀ h,(nY S X x.fk)[f]'h=aX l':=fun h=>by rw [aCD hlf,← hg,hfn]
  have hPl:(nY S X x.fk).length=x.fk.length:=by unfold nY; rw [List.length_map]
  have hPlt:f<(nY S X x.fk).length:=by omega
  generalize sB (aX l') i j=t at *
  have hwf:=wI (n:=(f:Int)+1)
  have hwt:=wI (n:=(t:Int)+1)
  have hnt:=OZ ((t:Int)+1)
  have hset2:(((fW S (dN X) b j (x.fk.take f) 0 r0).map V.c).set c [.int .i64 1,.int .i64 ((t:Int)+1),.str []])=(fW S (dN X) b j (x.fk.take (f+1)) 0 r0).map V.c:=by rw [hsn,List.map_set]; rfl
  generalize fW S (dN X) b j (x.fk.take f) 0 r0=R at *
  simp [hlf,Tb.c,hPlt,hPg,FH,Bk.c,hpf,hgp,hgg,Fk.c]
  (repeat' first|contradiction|exact .ok|apply And.intro|intro _|(apply gc<;>simp+contextual))
  refine aP htg ?_
  simp [hig,hwt,hbv]
  (repeat' first|contradiction|exact .ok|apply And.intro|intro _|(apply gc<;>simp+contextual[Fk.c,hig,hwt,hRl,hcl,hbv]))
  refine aP hnt ?_
  simp [V.a,hRl,hcl]
  (repeat' first|contradiction|exact .ok|apply And.intro|intro _|(apply gc<;>simp+contextual[V.a,hRl,hcl,hbv,hset2]))
  refine ⟨f+1,by omega,?_,by simp; omega⟩
  exact sM _ [(2,2,_),(8,8,_),(905,905,_)] (by simp [aB,Blk.live,V.c,hset2]) (by simp [aB,hwf,hbv])
 obtain rfl:f=x.fk.length:=by omega
 rw [List.take_length] at *
 have htk:((fW S (dN X) b j x.fk 0 r0).map V.c).take x.cols.length=(fW S (dN X) b j x.fk 0 r0).map V.c:=List.take_of_length_le (by simp [hRl])
 simp [hbv,hRl]
 (repeat' first|contradiction|exact .ok|apply And.intro|intro _|(apply gc<;>simp+contextual))
 try simp [htk]
theorem TP {S:List Tb} {X:Nat→List Bk} {x:Tb} {l:List Bk} {a i:Nat}:jN S X x l a (a+(i+1))=jN S X x l a (a+i)++[qS S X x l (a+i)]:=by
 unfold jN
 rw [Nat.add_sub_cancel_left,Nat.add_sub_cancel_left,aO]
theorem HJ {S:List Tb} {X:Nat→List Bk} {x:Tb} {l:List Bk} {a b:Nat}:(jN S X x l a b).length=b - a:=by unfold jN; rw [dR]
theorem aGN {S:List Tb} {X:List (List Bk)} (h:jS S X) (ht:∀ x∈S,∀ g∈x.fk,0≤tgt S g∧eR S g<S.length) {k:Nat} {x:Tb} {l:List Bk} (hk:S[k]?=some x) (hl:X[k]?=some l) (hK:iV x) {a b:Nat} (hab:a≤b) (hb:b≤bD (aX l)) (h5:b - a≤100000 - 1) :
  Cf En 44 [aN S,cP X,.d (.int .i64 k),.d (.int .i64 a),.d (.int .i64 b)] [] (.ref 1000000 0 (b - a) 1) [.arr 48 1 ((jN S (dN X) x l a b).map gO) false]:=by
 refine cJ aW (fn:=Tryz.f44) rfl ?_
 have hop:=aCC h ht hk hl
 have hlm:l∈X:=List.mem_of_getElem? hl
 obtain ⟨_,hl2⟩:=h.bl l hlm
 obtain ⟨m,hm⟩:∃ m,b=a+m:=⟨b - a,by omega⟩
 subst hm
 rw [Nat.add_sub_cancel_left]
 simp [aN,cP]
 (repeat' first|contradiction|exact .ok|apply And.intro|intro _|(apply gc<;>simp+contextual))
 refine aA hop (by simp [aN,cP]) ?_
 simp [TO,Tb.c]
 (repeat' first|contradiction|exact .ok|apply And.intro|intro _|(apply gc<;>simp+contextual))
 refine aL aW (fun i:Nat=>{ s:=cE [(4,.d (.int .i64 ((a+m:Nat):Int))),(11,.ptr 11 0 0),(12,.ref 903 0 i 1),(13,.d (.int .i64 ((a+i:Nat):Int)))],b:=cC [(11,11,.var (x.c.map AV.d++[.d (.sl (l.map Bk.c)),.d (.sl (aD (aJ (aX l)))),.d (.sl ((nY S X x.fk).map FH))])),(903,903,.arr 48 1 ((jN S (dN X) x l a (a+i)).map gO) false)] }) (fun i=>i≤m) (fun i=>m - i) 0 (by simp)
  (fD 12 903 48 1 (by simp) (by simp) (by decide) (by decide) _ [(11,11,_),(903,903,_)] ⟨by simp,by simp,by simp [aB,Blk.live,Tb.c,jN,aO],by simp⟩ (by simp [aB])) ?_
 intro i hi
 have hRl:(jN S (dN X) x l a (a+i)).length=i:=by rw [HJ]; omega
 by_cases hlt:i<m
 ·have hi1:((a+i:Nat):Int)<((a+m:Nat):Int):=by omega
  have hi2:(i:Int)<m:=by omega
  have hrow:=aFx h hk hl hK (n:=a+i) (by omega)
  have hsu:=TP (S:=S) (X:=dN X) (x:=x) (l:=l) (a:=a) (i:=i)
  have hw:=wI (n:=(a:Int)+i+1)
  have htk:((jN S (dN X) x l a (a+i)).map gO).take i=(jN S (dN X) x l a (a+i)).map gO:=List.take_of_length_le (by simp [hRl])
  generalize qS S (dN X) x l (a+i)=r at *
  generalize jN S (dN X) x l a (a+i)=R at *
  simp [hi2,Tb.c]
  (repeat' first|contradiction|exact .ok|apply And.intro|intro _|(apply gc<;>simp+contextual[hlt,hi2]))
  refine aA hrow (by simp [TO,Tb.c]) ?_
  simp [hRl,gF (i+1) (by omega) 24 (by decide),hw]
  (repeat' first|contradiction|exact .ok|apply And.intro|intro _|(apply gc<;>simp+contextual))
  refine ⟨i+1,by omega,?_,by simp; omega⟩
  simp only [hsu]
  exact sM _ [(11,11,_),(903,29,_)] (by simp [aB,Blk.live,gO]) (by simp [aB]; omega)
 obtain rfl:i=m:=by omega
 generalize jN S (dN X) x l a (a+i)=R at *
 simp
 (repeat' first|contradiction|exact .ok|apply And.intro|intro _|(apply gc<;>simp+contextual))
 refine EndsS.mk _ (.refl _ _ _ _) ?_
 exact ⟨_,[(1000000,903,.arr 48 1 (R.map gO) false)],by simp; rfl,⟨by simp,by simp,by simp [aB,Blk.live],by simp⟩,by simp [List.zipIdx,aM],by simp [aB]⟩
def aGO (c:D):AV:=.tup [.d c,.d (.int .i64 0)]
theorem aIh {S:List Tb} {X:List (List Bk)} (h:jS S X) (hpl:Cf Es 59 [aN S] [] (.d (.bool true)) []) (ht:∀ x∈S,∀ g∈x.fk,0≤tgt S g∧eR S g<S.length) {k:Nat} {x:Tb} {l:List Bk} (hk:S[k]?=some x) (hl:X[k]?=some l) (hK:iV x) {n:Nat} (hn:n<bD (aX l)) :
  Cf Es 17 [aN S,cP X,.d (.int .i64 k),.d (.int .i64 n)] [] (aGO (.sl ((qS S (dN X) x l n).map V.c))) []:=by
 refine cI bM (fn:=Tryz.f17) rfl ?_
 have hva:=wN h hpl
 have hlm:l∈X:=List.mem_of_getElem? hl
 obtain ⟨hl1,hl2⟩:=h.bl l hlm
 have hsz:=eG (DV X k l hl hl1 hl2 (by have:=h.few; have:=h.len; omega))
 have hop:=eG (aCC h ht hk hl)
 have hrow:=eG (aFx h hk hl hK hn)
 have h0:¬ (n:Int)<0:=by omega
 have h1:¬ (bD (aX l):Int)≤n:=by omega
 have h2:¬ bD (aX l)≤n:=by omega
 generalize qS S (dN X) x l n=r at *
 generalize bD (aX l)=M at *
 simp [aN,cP]
 (repeat' first|contradiction|exact .ok|apply And.intro|intro _|(apply gc<;>simp+contextual))
 refine aA hva (by simp [aN,cP]) ?_
 simp [h0]
 (repeat' first|contradiction|exact .ok|apply And.intro|intro _|(apply gc<;>simp+contextual[h0]))
 refine aA hsz (by simp [cP]) ?_
 simp [h1]
 (repeat' first|contradiction|exact .ok|apply And.intro|intro _|(apply gc<;>simp+contextual[h0,h1,h2]))
 refine aA hop (by simp [aN,cP]) ?_
 simp
 refine aA hrow (by simp [TO,Tb.c]) ?_
 simp [aGO]
 all_goals exact gz
theorem TR {S:List Tb} {X:List (List Bk)} (h:jS S X) (hpl:Cf Es 59 [aN S] [] (.d (.bool true)) []) (ht:∀ x∈S,∀ g∈x.fk,0≤tgt S g∧eR S g<S.length) (hK:∀ x∈S,iV x) (h2:∀ l∈X,bD (aX l)≤200) :
  Cf Es 11 [aN S,cP X] [] (.tup [dT (aO (jO S (dN X)) S.length),.d (.int .i64 0)]) []:=by
 refine cI bM (fn:=Tryz.f11) rfl ?_
 have hva:=wN h hpl
 have hfew:=h.few
 have hXl:=h.len
 simp [aN,cP]
 (repeat' first|contradiction|exact .ok|apply And.intro|intro _|(apply gc<;>simp+contextual))
 refine aA hva (by simp [aN,cP]) ?_
 simp
 (repeat' first|contradiction|exact .ok|apply And.intro|intro _|(apply gc<;>simp+contextual))
 refine aL bM (fun k:Nat=>{ s:=cE [(2,.ptr 2 0 0),(3,.ptr 3 0 0),(4,.ptr 4 0 0),(19,.d (.int .i64 X.length)),(20,.d (.int .i64 k))],b:=cC [(2,2,.var [.d (.sl (S.map Tb.c))]),(3,3,.var [.d (.sl (X.map iG))]),(4,4,.var [.nils])] }) (fun k=>k≤X.length) (fun k=>X.length - k) 0 (by simp)
  (sM _ [(2,2,_),(3,3,_),(4,4,_)] (by simp [aB,Blk.live]) (by simp [aB])) ?_
 intro k hk
 by_cases hkl:k<X.length
 ·have hl:=gE hkl
  obtain ⟨hl1,hl2⟩:=h.bl X[k] (List.getElem_mem hkl)
  have hl3:=h2 X[k] (List.getElem_mem hkl)
  have hsz:=eG (DV X k X[k] hl hl1 hl2 (by omega))
  have hw:=wI (n:=(k:Int)+1)
  have h200:¬ (200:Int)<bD (aX X[k]):=by omega
  have h200n:¬ 200<bD (aX X[k]):=by omega
  generalize bD (aX X[k])=M at *
  simp [hkl]
  (repeat' first|contradiction|exact .ok|apply And.intro|intro _|(apply gc<;>simp+contextual))
  refine aA hsz (by simp [cP]) ?_
  simp [h200]
  (repeat' first|contradiction|exact .ok|apply And.intro|intro _|(apply gc<;>simp+contextual[h200,h200n]))
  refine ⟨k+1,by omega,?_,by simp; omega⟩
  exact sM _ [(2,2,_),(3,3,_),(4,4,_)] (by simp [aB,Blk.live]) (by simp [aB,hw])
 obtain rfl:k=X.length:=by omega
 simp
 (repeat' first|contradiction|exact .ok|apply And.intro|intro _|(apply gc<;>simp+contextual))
 refine aL bM (fun k:Nat=>{ s:=cE [(2,.ptr 2 0 0),(3,.ptr 3 0 0),(4,.ptr 4 0 0),(8,.ptr 8 0 0),(31,.d (.int .i64 X.length)),(32,.d (.int .i64 k))],b:=cC [(2,2,.var [.d (.sl (S.map Tb.c))]),(3,3,.var [.d (.sl (X.map iG))]),(4,4,.var [.nils]),(8,8,.var [.ref 905 0 k 1]),(905,905,.arr 43 1 ((aO (jO S (dN X)) k).map fY) false)] }) (fun k=>k≤X.length) (fun k=>X.length - k) 0 (by simp)
  ((iH 8 905 43 1 0 (cells:=[.nils]) (by simp) rfl (by simp) (by decide) (by decide)).trans (sM _ [(2,2,_),(3,3,_),(4,4,_),(8,8,_),(905,905,_)] (by simp [aB,Blk.live,aO,bP]) (by simp [aB]))) ?_
 intro k hk
 by_cases hkl:k<X.length
 ·have hkS:k<S.length:=by omega
  obtain ⟨l,hle⟩:∃ l,l=X[k]:=⟨_,rfl⟩
  obtain ⟨x,hxe⟩:∃ x,x=S[k]:=⟨_,rfl⟩
  have hl:X[k]?=some l:=by rw [gE hkl,hle]
  have hx:S[k]?=some x:=by rw [gE hkS,hxe]
  have hlm:l∈X:=List.mem_of_getElem? hl
  have hxm:x∈S:=List.mem_of_getElem? hx
  obtain ⟨hl1,hl2⟩:=h.bl l hlm
  have hl3:=h2 l hlm
  have hsz:=eG (DV X k l hl hl1 hl2 (by omega))
  have hrows:=eG (aGN h ht hx hl (hK x hxm) (a:=0) (b:=bD (aX l)) (by omega) (Nat.le_refl _) (by omega))
  have hw:=wI (n:=(k:Int)+1)
  have hsucc:aO (jO S (dN X)) (k+1)=aO (jO S (dN X)) k++[jN S (dN X) x l 0 (bD (aX l))]:=by
   rw [aO]
   congr 2
   unfold jO aR
   rw [hx]
   have:dN X k=l:=by unfold dN; rw [hl]; rfl
   rw [this]
   rfl
  have htl:((aO (jO S (dN X)) k).map fY).take k=(aO (jO S (dN X)) k).map fY:=List.take_of_length_le (by simp)
  have hIl:(aO (jO S (dN X)) k).length=k:=dR ..
  have hRl:=HJ (S:=S) (X:=dN X) (x:=x) (l:=l) (a:=0) (b:=bD (aX l))
  generalize jN S (dN X) x l 0 (bD (aX l))=R at *
  generalize aO (jO S (dN X)) k=I at *
  generalize bD (aX l)=M at *
  have hRt:(R.map gO).take M=R.map gO:=List.take_of_length_le (by simp [hRl])
  simp [hkl]
  (repeat' first|contradiction|exact .ok|apply And.intro|intro _|(apply gc<;>simp+contextual))
  refine aA hsz (by simp [cP]) ?_
  simp
  refine eM [] hrows (by simp) (by simp) (by simp) (by simp) (by simp) (by simp) (by simp [aN,cP]) ?_
  simp [hIl,hRl,hRt,gF (k+1) (by omega) 24 (by decide)]
  (repeat' first|contradiction|exact .ok|apply And.intro|intro _|(apply gc<;>simp+contextual))
  refine ⟨k+1,by omega,?_,by simp; omega⟩
  simp only [hsucc]
  exact sM _ [(2,2,_),(3,3,_),(4,4,_),(8,8,_),(905,45,_)] (by simp [aB,Blk.live,fY]) (by simp [aB,hw])
 obtain rfl:k=X.length:=by omega
 have htl:((aO (jO S (dN X)) X.length).map fY).take X.length=(aO (jO S (dN X)) X.length).map fY:=List.take_of_length_le (by simp)
 rw [← hXl]
 simp [dT,htl]
 (repeat' first|contradiction|exact .ok|apply And.intro|intro _|(apply gc<;>simp+contextual))
 all_goals (try simp [htl])
theorem UO (x:Tb) (hx:x.ok) (b:Bk) (hb:b.v.length≤1000):Cf En 65 [x.a,.agg (b.c.map AV.d)] [] (.ref 1000000 0 b.v.length 3) [.arr 92 3 ((iQ x b.v b.v.length).map V.c) false]:=by
 refine cJ aW (fn:=Tryz.f65) rfl ?_
 have hcl:=vP b.v hb
 simp [Tb.a,Bk.c]
 (repeat' first|contradiction|exact .ok|apply And.intro|intro _|(apply gc<;>simp+contextual))
 refine eM [] hcl (by simp) (by simp) (by simp) (by simp) (by simp) (by simp) (by simp) ?_
 simp [Tb.c]
 (repeat' first|contradiction|exact .ok|apply And.intro|intro _|(apply gc<;>simp+contextual))
 refine aL aW (fun c:Nat=>{ s:=cE [(2,.ptr 2 0 0),(5,.ref 905 0 b.v.length 3),(11,.d (.int .i64 b.v.length)),(12,.d (.int .i64 c))],b:=cC [(2,2,.var (x.c.map AV.d)),(905,905,.arr 92 3 ((iQ x b.v c).map V.c) false)] }) (fun c=>c≤b.v.length) (fun c=>b.v.length - c) 0 (by simp)
  (sM _ [(2,2,_),(905,10000,_)] (by simp [aB,Blk.live,Tb.c,xV]) (by simp [aB])) ?_
 intro c hc
 have hbl:=gT x b.v c
 by_cases hlt:c<b.v.length
 ·have hk:=KO x hx c
  have hs:=xW (x:=x) (v:=b.v) (n:=c)
  have hw:=wI (n:=(c:Int)+1)
  cases hK:cU x c with
  | true =>
    rw [hK] at hk
    rw [hK,if_pos rfl] at hs
    simp [hlt,Tb.c]
    (repeat' first|contradiction|exact .ok|apply And.intro|intro _|(apply gc<;>simp+contextual))
    refine aA hk (by simp [Tb.a,Tb.c]) ?_
    simp [hlt,hbl,V.c]
    (repeat' first|contradiction|exact .ok|apply And.intro|intro _|(apply gc<;>simp+contextual))
    refine ⟨c+1,by omega,?_,by simp; omega⟩
    simp only [hs]
    exact sM _ [(2,2,_),(905,905,_)] (by simp [aB,Blk.live,List.map_set,V.c]) (by simp [aB,hw])
  | false =>
    rw [hK] at hk
    rw [hK,if_neg (by simp)] at hs
    simp [hlt,Tb.c]
    (repeat' first|contradiction|exact .ok|apply And.intro|intro _|(apply gc<;>simp+contextual))
    refine aA hk (by simp [Tb.a,Tb.c]) ?_
    simp
    (repeat' first|contradiction|exact .ok|apply And.intro|intro _|(apply gc<;>simp+contextual))
    refine ⟨c+1,by omega,?_,by simp; omega⟩
    simp only [hs]
    exact sM _ [(2,2,_),(905,905,_)] (by simp [aB,Blk.live]) (by simp [aB,hw])
 obtain rfl:c=b.v.length:=by omega
 simp
 (repeat' first|contradiction|exact .ok|apply And.intro|intro _|(apply gc<;>simp+contextual))
 exact EndsS.of [905] _ rfl (by simp; rfl) (by decide) rfl (by apply nS<;>simp [Blk.live]) (by simp [aB])
def tY (x:Tb) (b:Bk):List V:=iQ x b.v b.v.length
def qM (S:List Tb) (X:Nat→List Bk) (l:List Nat) (path:List Int) (b:Bk):Nat→List V×Bk
 | 0=>(tY (aR S ((l[0]?).getD 0)) b,b)
 | i+1=>match l[i+1]?,path[i]? with
   | some k,some f=>match (X k)[(((qM S X l path b i).2.p[f.toNat]?).getD 0).toNat]? with
     | some q=>((qM S X l path b i).1++tY (aR S k) q,q)
     | none=>qM S X l path b i
   | _,_=>qM S X l path b i
def CN (S:List Tb) (X:Nat→List Bk) (l:List Nat) (v:Vw) (b:Bk):List V:=(qM S X l v.path b v.path.length).1
def pU (S:List Tb) (X:Nat→List Bk) (l:List Nat) (v:Vw):List Bk→Nat
 | []=>0
 | b::r=>(if lE v (CN S X l v b)=true then b.n else 0)+pU S X l v r
theorem zS {S:List Tb} {X:Nat→List Bk} {l:List Nat} {v:Vw}:∀ {L:List Bk},pU S X l v L≤bD (aX L)
 | []=>by simp [pU,aX,bD]
 | b::r=>by
   have:=zS (S:=S) (X:=X) (l:=l) (v:=v) (L:=r)
   have e:bD (aX (b::r))=b.n+bD (aX r):=rfl
   rw [e,pU]
   split <;> omega
theorem NG {S:List Tb} {X:List (List Bk)} (h:jS S X) {l:List Nat} {v:Vw} (hc:dW S v=some l) {b:Bk} {i:Nat} (hi:i<v.path.length) {k m:Nat} (hk:l[i]?=some k) (hm:l[i+1]?=some m) (hat:(qM S (dN X) l v.path b i).2∈dN X k) :
  ∃ (f z:Nat) (q:Bk),v.path[i]=(f:Int)∧(qM S (dN X) l v.path b i).2.p[f]?=some (z:Int)∧(dN X m)[z]?=some q∧qM S (dN X) l v.path b (i+1)=((qM S (dN X) l v.path b i).1++tY (aR S m) q,q)∧q∈dN X m:=by
 obtain ⟨m',k',a1,a2,a3⟩:=jX hc i hi
 rw [hk] at a2
 rw [hm] at a1
 cases a1; cases a2
 obtain ⟨hlt,_⟩:=cK hc
 have hkS:=hlt k (List.mem_of_getElem? hk)
 have htab:aR S k=S[k]:=by unfold aR; rw [gE hkS]; rfl
 have hkX:k<X.length:=by rw [h.len]; exact hkS
 have hfx:dN X k=X[k]:=by unfold dN; rw [gE hkX]; rfl
 have hB:=h.blk k S[k] X[k] (gE hkS) (gE hkX) _ (by rw [← hfx]; exact hat)
 unfold fC at a3
 split at a3
 ·rename_i h0
  split at a3
  ·rename_i g hg
   split at a3
   ·rename_i ht
    cases a3
    rw [htab] at hg
    have hfl:=(List.getElem?_eq_some_iff.1 hg).1
    have hpl:v.path[i].toNat<(qM S (dN X) l v.path b i).2.p.length:=by rw [hB.p]; exact hfl
    obtain ⟨to,L,z,q,e1,e2,e3,e4,e5⟩:=hB.par _ g _ hg (gE hpl)
    have hto:eR S g=to:=by unfold eR; rw [e1]; rfl
    have hfm:dN X (eR S g)=L:=by rw [hto]; unfold dN; rw [e2]; rfl
    have hz:(qM S (dN X) l v.path b i).2.p[v.path[i].toNat]?=some (z:Int):=by rw [gE hpl,e3]
    refine ⟨v.path[i].toNat,z,q,by omega,hz,by rw [hfm]; exact e4,?_,by rw [hfm]; exact List.mem_of_getElem? e4⟩
    rw [qM,hm,gE hi]
    simp only
    rw [hz,Option.getD_some,Int.toNat_natCast,hfm,e4]
   ·cases a3
  ·cases a3
 ·cases a3
theorem NH {S:List Tb} {X:List (List Bk)} (h:jS S X) {k:Nat} {b:Bk} (hk:k<S.length) (hb:b∈dN X k):(tY (aR S k) b).length=(aR S k).cols.length∧b.v.length=(aR S k).cols.length:=by
 have htab:aR S k=S[k]:=by unfold aR; rw [gE hk]; rfl
 have hkX:k<X.length:=by rw [h.len]; exact hk
 have hfx:dN X k=X[k]:=by unfold dN; rw [gE hkX]; rfl
 have hB:=h.blk k S[k] X[k] (gE hk) (gE hkX) b (by rw [← hfx]; exact hb)
 have:=hB.v
 unfold tY
 rw [gT,htab]
 exact ⟨this,this⟩
def coF (S:List Tb) (X:List (List Bk)) (v:Vw) (Z:List (List D)) (L:List Bk) (l2:List (Nat×AV)) (c k:Nat) (B:iY):St :=
 { s:=cE ([(3,.ptr 3 0 0),(4,.ptr 4 0 0),(5,.ptr 5 0 0),(10,.d (.sl Z)),(12,.d (.int .i64 c)),(43,.d (.sl (L.map Bk.c))),(44,.d (.int .i64 L.length)),(45,.d (.int .i64 k))]++l2),b:=cC ([(3,3,.var [.d (.sl (S.map Tb.c))]),(4,4,.var [.d (.sl (X.map iG))]),(5,5,.var (v.c.map AV.d))]++B) }
theorem JK {S:List Tb} {X:List (List Bk)} (h:jS S X) (hpl:Cf Es 59 [aN S] [] (.d (.bool true)) []) (hc3:∀ x∈S,x.cols.length≤300) {v:Vw} {l:List Nat} (hv:JN S v l) :
  Cf Es 26 [aN S,cP X,v.a] [] (.tup [.d (.int .i64 (pU S (dN X) l v (dN X ((l[0]?).getD 0)))),.d (.int .i64 0)]) []:=by
 have hva:=wN h hpl
 have hdv:=CP (by have:=h.few; omega) h.ok hc3 h.ty hpl hv
 have hta:=eG (fX S (by have:=h.few; omega) h.ok v (by have:=(cK hv.ch).2; have:=hv.len; omega))
 obtain ⟨hlt,hll⟩:=cK hv.ch
 have h3:=hv.len
 rw [hv.ch] at hta
 unfold lP at hta
 simp only at hta
 have hfew:=h.few
 have hXl:=h.len
 have hl0:0<l.length:=by omega
 obtain ⟨k0,hk0⟩:∃ k,k=l[0]:=⟨_,rfl⟩
 have hl0e:l[0]?=some k0:=by rw [gE hl0,hk0]
 have hk0S:=hlt k0 (by rw [hk0]; exact List.getElem_mem hl0)
 rw [hl0e,Option.getD_some]
 obtain ⟨L,hL⟩:∃ L,L=dN X k0:=⟨_,rfl⟩
 have hk0X:k0<X.length:=by omega
 have hgL:∀ h,X[k0]'h=L:=fun h=>by rw [hL]; unfold dN; rw [gE h]; rfl
 have hLm:L∈X:=by rw [← hgL hk0X]; exact List.getElem_mem hk0X
 obtain ⟨hb1,hb2⟩:=h.bl L hLm
 rw [← hL]
 have hcle:=zS (S:=S) (X:=dN X) (l:=l) (v:=v) (L:=L)
 obtain ⟨x0,hx0⟩:∃ x,x=S[k0]:=⟨_,rfl⟩
 have hgx0:∀ h,S[k0]'h=x0:=fun _=>hx0.symm
 have htab0:aR S k0=x0:=by unfold aR; rw [gE hk0S,hx0]; rfl
 have hx0o:=h.ok x0 (by rw [hx0]; exact List.getElem_mem hk0S)
 have hnl:=cH l
 have hga:∀ (i k:Nat),l[i]?=some k→∀ h',(aD (aJ l))[i]'h'=[D.int .i64 (k:Int)]:=fun i k e h'=>by
  obtain ⟨a,b⟩:=List.getElem?_eq_some_iff.1 e
  simp [aD,aJ,b]
 have hga0:=hga 0 k0 hl0e
 have hZ0:0<(aD (aJ l)).length:=by omega
 have htrue:=fun row hrow=>PS v (by have:=hv.one; omega) (fun e he=>(hv.few e he).1) row hrow
 generalize hZ:aD (aJ l)=Z at *
 refine cI bM (fn:=Tryz.f26) rfl ?_
 simp [aN,cP,Vw.a,Vw.c] at hva hdv hta ⊢
 (repeat' first|contradiction|exact .ok|apply And.intro|intro _|(apply gc<;>simp+contextual))
 refine aP hva ?_
 simp
 (repeat' first|contradiction|exact .ok|apply And.intro|intro _|(apply gc<;>simp+contextual))
 refine aP hdv ?_
 simp
 (repeat' first|contradiction|exact .ok|apply And.intro|intro _|(apply gc<;>simp+contextual))
 refine aP hta ?_
 simp [hZ0,hga0,hk0X,hgL,iG]
 (repeat' first|contradiction|exact .ok|apply And.intro|intro _|(apply gc<;>simp+contextual[hZ0,hga0,hk0X,hgL,iG]))
 refine aL bM (fun y:Nat×Nat=>coF S X v Z L [] y.2 y.1 []) (fun y=>y.1≤L.length∧y.2+pU S (dN X) l v (L.drop y.1)=pU S (dN X) l v L) (fun y=>L.length - y.1) (0,0) ⟨by simp,by simp⟩
  (sM _ [(3,3,_),(4,4,_),(5,5,_)] (by simp [aB,Blk.live,Vw.c]) (by simp [aB])) ?_
 rintro ⟨k,c⟩ ⟨hk,hcn⟩
 simp only at hk hcn
 by_cases hkl:k<L.length
 ·obtain ⟨b,hb⟩:∃ b,b=L[k]:=⟨_,rfl⟩
  have hgb:∀ h,L[k]'h=b:=fun _=>hb.symm
  have hbm:b∈dN X k0:=by rw [← hL,hb]; exact List.getElem_mem hkl
  rw [List.drop_eq_getElem_cons hkl,hgb,pU] at hcn
  have hwk:=wI (n:=(k:Int)+1)
  obtain ⟨hbl,hbv⟩:=NH h hk0S hbm
  have hb0:=eG (UO x0 hx0o b (by rw [hbv,htab0]; exact hx0o.cols))
  have hBk:=h.blk k0 x0 L (by rw [gE hk0S,hx0]) (by rw [gE hk0X,hgL]) b (by rw [hL]; exact hbm)
  have hbn:=hBk.n
  have hbn0:¬ (b.n:Int)=0:=by omega
  have hbn0n:¬ b.n=0:=by omega
  have hbr:tY (aR S k0) b=iQ x0 b.v b.v.length:=by unfold tY; rw [htab0]
  have hbsl:=gT x0 b.v b.v.length
  simp [coF,hkl,hgb,Bk.c,hbn0n,hZ0,hga0,hk0S,hgx0,Tb.c]
  (repeat' first|contradiction|exact .ok|apply And.intro|intro _|(apply gc<;>simp+contextual[hbn0,hbn0n]))
  refine eM [] hb0 (by simp) (by simp) (by simp) (by simp) (by simp) (by simp) (by simp [Tb.a,Tb.c,Bk.c]) ?_
  simp [Vw.c]
  (repeat' first|contradiction|exact .ok|apply And.intro|intro _|(apply gc<;>simp+contextual))
  refine aL bM (fun i:Nat=>coF S X v Z L [(14,.ptr 14 0 0),(15,.ref 915 0 (qM S (dN X) l v.path b i).1.length 3),(16,.ptr 16 0 0),(63,.d (.sl (aD v.path))),(64,.d (.int .i64 v.path.length)),(65,.d (.int .i64 i))] c k [(14,14,.var (b.c.map AV.d)),(16,16,.var ((qM S (dN X) l v.path b i).2.c.map AV.d)),(915,915,.arr 92 3 ((qM S (dN X) l v.path b i).1.map V.c) false)])
   (fun i=>i≤v.path.length∧(∃ q,l[i]?=some q∧(qM S (dN X) l v.path b i).2∈dN X q)∧(qM S (dN X) l v.path b i).1.length≤300*(i+1)) (fun i=>v.path.length - i) 0 ⟨by simp,⟨k0,hl0e,by simpa [qM] using hbm⟩,by
    have e:(qM S (dN X) l v.path b 0).1=tY (aR S k0) b:=by simp [qM,hl0e]
    rw [e,hbl,htab0]
    have:=hc3 x0 (by rw [hx0]; exact List.getElem_mem hk0S)
    omega⟩
   (sM _ [(3,3,_),(4,4,_),(5,5,_),(14,14,_),(16,16,_),(915,61000,_)] (by simp [aB,Blk.live,Vw.c,Bk.c,qM,hl0e,hbr]) (by simp [aB,qM,hl0e,hbr,hbsl])) ?_
  rintro i ⟨hi,⟨ki,hki,hat⟩,hrl⟩
  by_cases hip:i<v.path.length
  ·obtain ⟨m,ki',hm,hki2,_⟩:=jX hv.ch i hip
   rw [hki] at hki2
   cases hki2
   obtain ⟨f,z,q,hf,hz,hq,hnx,hqm⟩:=NG h hv.ch hip hki hm hat
   generalize qM S (dN X) l v.path b i=R at *
   obtain ⟨row,at_⟩:=R
   simp only at hz hrl hat hnx ⊢
   have hmS:=hlt m (List.mem_of_getElem? hm)
   have hmX:m<X.length:=by omega
   obtain ⟨L2,hL2⟩:∃ L,L=dN X m:=⟨_,rfl⟩
   have hgL2:∀ h,X[m]'h=L2:=fun h=>by rw [hL2]; unfold dN; rw [gE h]; rfl
   rw [← hL2] at hq
   obtain ⟨hzl,hqe⟩:=List.getElem?_eq_some_iff.1 hq
   have hgq:∀ h,L2[z]'h=q:=fun _=>hqe
   obtain ⟨x,hx⟩:∃ x,x=S[m]:=⟨_,rfl⟩
   have hgx:∀ h,S[m]'h=x:=fun _=>hx.symm
   have hxm:x∈S:=by rw [hx]; exact List.getElem_mem hmS
   have htab:aR S m=x:=by unfold aR; rw [gE hmS,hx]; rfl
   obtain ⟨hql,hqv⟩:=NH h hmS hqm
   have hbq:=eG (UO x (h.ok x hxm) q (by rw [hqv,htab]; exact (h.ok x hxm).cols))
   have hqr:tY (aR S m) q=iQ x q.v q.v.length:=by unfold tY; rw [htab]
   rw [hqr] at hql hnx
   rw [htab] at hql hqv
   have hx3:=hc3 x hxm
   have hga1:=hga (i+1) m hm
   have hZi:i+1<Z.length:=by
    have:=(List.getElem?_eq_some_iff.1 hm).1
    omega
   obtain ⟨hfp,hpe⟩:=List.getElem?_eq_some_iff.1 hz
   have hgp:∀ h,at_.p[f]'h=(z:Int):=fun _=>hpe
   have hgf:∀ h,v.path[i]'h=(f:Int):=fun _=>hf
   have hwi:=wI (n:=(i:Int)+1)
   have hi0:(0:Int)≤(i:Int)+1:=by omega
   generalize iQ x q.v q.v.length=BQ at *
   have htB:(BQ.map V.c).take q.v.length=BQ.map V.c:=List.take_of_length_le (by simp; omega)
   have htR:(row.map V.c).take row.length=row.map V.c:=List.take_of_length_le (by simp)
   have hs1:=gF row.length (by omega) 32 (by decide)
   have hs2:=gF (row.length+q.v.length) (by omega) 32 (by decide)
   have hs3:=gF (row.length+BQ.length) (by omega) 32 (by decide)
   have hBl:BQ.length=q.v.length:=by omega
   simp [coF,hip,hgf,hwi,hi0,hZi,hga1,hmX,hgL2,iG,Bk.c,hfp,hgp,hzl,hgq]
   (repeat' first|contradiction|exact .ok|apply And.intro|intro _|(apply gc<;>simp+contextual[hip,hgf,hwi,hi0,hZi,hga1,hmX,hgL2,iG,Bk.c,hfp,hgp,hzl,hgq]))
   simp [hmS,hgx,Tb.c]
   (repeat' first|contradiction|exact .ok|apply And.intro|intro _|(apply gc<;>simp+contextual[hwi,hi0,hZi,hga1,hmS,hgx]))
   refine eM [] hbq (by simp) (by simp) (by simp) (by simp) (by simp) (by simp) (by simp [Tb.a,Tb.c,Bk.c]) ?_
   simp [htB,hs2,hBl,V.c]
   (repeat' first|contradiction|exact .ok|apply And.intro|intro _|(apply gc<;>simp+contextual))
   refine ⟨i+1,⟨by omega,⟨m,hm,by rw [hnx]; exact hqm⟩,by rw [hnx]; simp; omega⟩,?_,by simp; omega⟩
   simp only [hnx]
   exact sM _ [(3,3,_),(4,4,_),(5,5,_),(14,14,_),(16,16,_),(915,98,_)] (by simp [aB,Blk.live,Vw.c]) (by simp [aB,hwi,hBl])
  obtain rfl:i=v.path.length:=by omega
  have hrw:CN S (dN X) l v b=(qM S (dN X) l v.path b v.path.length).1:=rfl
  rw [hrw] at hcn
  have htr:=htrue (qM S (dN X) l v.path b v.path.length).1 (by omega)
  generalize qM S (dN X) l v.path b v.path.length=R at *
  obtain ⟨row,at_⟩:=R
  simp only at hcn htr hrl ⊢
  have htR:(row.map V.c).take row.length=row.map V.c:=List.take_of_length_le (by simp)
  cases hM:lE v row with
  | false =>
    rw [hM] at htr
    rw [hM,if_neg (by simp)] at hcn
    simp [coF,Vw.a,Vw.c] at htr ⊢
    (repeat' first|contradiction|exact .ok|apply And.intro|intro _|(apply gc<;>simp+contextual))
    refine aA htr (by simp [htR]) ?_
    simp [htR]
    (repeat' first|contradiction|exact .ok|apply And.intro|intro _|(apply gc<;>simp+contextual))
    refine ⟨(k+1,c),⟨by simp only; omega,by simp only; omega⟩,?_,by simp; omega⟩
    exact sM _ [(3,3,_),(4,4,_),(5,5,_)] (by simp [aB,Blk.live]) (by simp [aB,hwk])
  | true =>
    rw [hM] at htr
    rw [hM,if_pos rfl] at hcn
    have hwc:=wI (n:=(c:Int)+b.n)
    simp [coF,Vw.a,Vw.c] at htr ⊢
    (repeat' first|contradiction|exact .ok|apply And.intro|intro _|(apply gc<;>simp+contextual))
    refine aA htr (by simp [htR]) ?_
    simp [htR,Bk.c]
    (repeat' first|contradiction|exact .ok|apply And.intro|intro _|(apply gc<;>simp+contextual))
    refine ⟨(k+1,c+b.n),⟨by simp only; omega,by simp only; omega⟩,?_,by simp; omega⟩
    exact sM _ [(3,3,_),(4,4,_),(5,5,_)] (by simp [aB,Blk.live]) (by simp [aB,hwk,hwc])
 obtain rfl:k=L.length:=by omega
 rw [List.drop_length,pU,Nat.add_zero] at hcn
 rw [← hcn]
 simp [coF]
 all_goals exact gz
def mW (n:Nat) (b:Bk):Bk:=⟨b.n*n,b.v,b.p⟩
def sW (n:Nat) (X:List (List Bk)):List (List Bk):=X.map fun l=>l.map (mW n)
theorem TH (n:Nat):∀ l:List Bk,bD (aX (l.map (mW n)))=bD (aX l)*n
 | []=>by simp [aX,bD]
 | b::l=>by
   have e:bD (aX (b::l))=b.n+bD (aX l):=rfl
   have e2:bD (aX ((b::l).map (mW n)))=b.n*n+bD (aX (l.map (mW n))):=rfl
   rw [e,e2,TH n l,Nat.add_mul]
theorem VY {l:List Bk} {b:Bk} (h:b∈l):b.n≤bD (aX l):=by
 induction l with
 | nil=>cases h
 | cons c l ih =>
   have e:bD (aX (c::l))=c.n+bD (aX l):=rfl
   rw [e]
   rcases List.mem_cons.1 h with rfl | h
   ·omega
   ·have:=ih h; omega
def LG (S:List Tb) (X:List (List Bk)) (n:Nat) (l2:List (Nat×AV)) (B:iY):St :=
 { s:=cE ([(2,.d (.int .i64 n)),(4,.ptr 4 0 0),(6,.ptr 6 0 0)]++l2),b:=cC ([(4,4,.var [.d (.sl (X.map iG))]),(6,6,.var [.nils])]++B) }
theorem aEM {S:List Tb} {X:List (List Bk)} (h:jS S X) (hpl:Cf Es 59 [aN S] [] (.d (.bool true)) []) (n:Nat) (hn:1≤n∧n≤10000000) (hfit:∀ l∈X,bD (aX l)≤100) :
  Cf Es 31 [aN S,cP X,.d (.int .i64 n)] [] (.tup [cP (sW n X),.d (.int .i64 0)]) []:=by
 have hva:=wN h hpl
 have hfew:=h.few
 have hXl:=h.len
 have hn1:¬ (n:Int)<1:=by omega
 obtain ⟨Q,hQ,hQ2⟩:∃ Q:Int,(1000000000:Int).tdiv n=Q∧100≤Q∧Q≤1000000000:=by
  refine ⟨((1000000000 / n:Nat):Int),by rw [Int.tdiv_eq_ediv_of_nonneg (by omega)]; exact (Int.natCast_ediv 1000000000 n).symm ▸ rfl,?_,?_⟩
  ·have:100≤1000000000 / n:=by rw [Nat.le_div_iff_mul_le (by omega)]; omega
   omega
  ·have:=Nat.div_le_self 1000000000 n
   omega
 have hwQ:=wI (n:=Q)
 have hn0:¬ (n:Int)=0:=by omega
 have hn0n:¬ n=0:=by omega
 refine cI bM (fn:=Tryz.f31) rfl ?_
 simp [aN,cP] at hva ⊢
 (repeat' first|contradiction|exact .ok|apply And.intro|intro _|(apply gc<;>simp+contextual))
 refine aP hva ?_
 simp [hn1]
 (repeat' first|contradiction|exact .ok|apply And.intro|intro _|(apply gc<;>simp+contextual[hn1]))
 refine aL bM (fun k:Nat=>LG S X n [(28,.d (.int .i64 X.length)),(29,.d (.int .i64 k))] []) (fun k=>k≤X.length) (fun k=>X.length - k) 0 (by simp)
  (sM _ [(4,4,_),(6,6,_)] (by simp [aB,Blk.live]) (by simp [aB])) ?_
 intro k hk
 by_cases hkl:k<X.length
 ·have hl:=gE hkl
  obtain ⟨hl1,hl2⟩:=h.bl X[k] (List.getElem_mem hkl)
  have hl3:=hfit X[k] (List.getElem_mem hkl)
  have hsz:=eG (DV X k X[k] hl hl1 hl2 (by omega))
  have hw:=wI (n:=(k:Int)+1)
  generalize bD (aX X[k])=M at *
  have hMQ:¬ Q<(M:Int):=by omega
  simp [LG,hkl]
  (repeat' first|contradiction|exact .ok|apply And.intro|intro _|(apply gc<;>simp+contextual))
  refine aA hsz (by simp [cP]) ?_
  simp [hn0n,hQ,hwQ,hMQ]
  (repeat' first|contradiction|exact .ok|apply And.intro|intro _|(apply gc<;>simp+contextual[hn0,hn0n,hQ,hwQ,hMQ]))
  refine ⟨k+1,by omega,?_,by simp; omega⟩
  exact sM _ [(4,4,_),(6,6,_)] (by simp [aB,Blk.live]) (by simp [aB,hw])
 obtain rfl:k=X.length:=by omega
 simp [LG]
 (repeat' first|contradiction|exact .ok|apply And.intro|intro _|(apply gc<;>simp+contextual))
 refine aL bM (fun k:Nat=>LG S X n [(10,.ptr 10 0 0),(41,.d (.sl (X.map iG))),(42,.d (.int .i64 X.length)),(43,.d (.int .i64 k))] [(10,10,.var [.ref 910 0 k 1]),(910,910,.arr 103 1 ((sW n (X.take k)).map iG) false)]) (fun k=>k≤X.length) (fun k=>X.length - k) 0 (by simp)
  ((iH 10 910 103 1 0 (cells:=[.nils]) (by simp) rfl (by simp) (by decide) (by decide)).trans (sM _ [(4,4,_),(6,6,_),(10,10,_),(910,910,_)] (by simp [aB,Blk.live,sW,bP]) (by simp [aB]))) ?_
 intro k hk
 have hYl:(sW n (X.take k)).length=k:=by simp [sW]; omega
 by_cases hkl:k<X.length
 ·obtain ⟨l,hl⟩:∃ l,l=X[k]:=⟨_,rfl⟩
  have hgl:∀ h,X[k]'h=l:=fun _=>hl.symm
  have hlm:l∈X:=by rw [hl]; exact List.getElem_mem hkl
  obtain ⟨hl1,hl2⟩:=h.bl l hlm
  have hl3:=hfit l hlm
  have hkS:k<S.length:=by omega
  have hblk:=h.blk k S[k] l (gE hkS) (by rw [gE hkl,hl])
  have hxo:=h.ok S[k] (List.getElem_mem hkS)
  have hw:=wI (n:=(k:Int)+1)
  have hsu:sW n (X.take (k+1))=sW n (X.take k)++[l.map (mW n)]:=by
   unfold sW
   rw [bI hkl,List.map_append,← hl]
   rfl
  have htY:((sW n (X.take k)).map iG).take k=(sW n (X.take k)).map iG:=List.take_of_length_le (by simp [hYl])
  generalize sW n (X.take k)=Y at *
  simp [LG,hkl,hgl,iG]
  (repeat' first|contradiction|exact .ok|apply And.intro|intro _|(apply gc<;>simp+contextual[hkl,hgl,iG]))
  refine aL bM (fun j:Nat=>LG S X n [(10,.ptr 10 0 0),(13,.ref 913 0 j 3),(41,.d (.sl (X.map iG))),(42,.d (.int .i64 X.length)),(43,.d (.int .i64 k)),(47,.d (.sl (l.map Bk.c))),(48,.d (.int .i64 l.length)),(49,.d (.int .i64 j))] [(10,10,.var [.ref 910 0 k 1]),(910,910,.arr 103 1 (Y.map iG) false),(913,913,.arr 99 3 (((l.take j).map (mW n)).map Bk.c) false)]) (fun j=>j≤l.length) (fun j=>l.length - j) 0 (by simp)
   (fD 13 913 99 3 (by simp) (by simp) (by decide) (by decide) _ [(4,4,_),(6,6,_),(10,10,_),(910,910,_),(913,913,_)] ⟨by simp,by simp,by simp [aB,Blk.live],by simp⟩ (by simp [aB])) ?_
  intro j hj
  have hZl:((l.take j).map (mW n)).length=j:=by simp; omega
  by_cases hjl:j<l.length
  ·obtain ⟨b,hb⟩:∃ b,b=l[j]:=⟨_,rfl⟩
   have hgb:∀ h,l[j]'h=b:=fun _=>hb.symm
   have hbm:b∈l:=by rw [hb]; exact List.getElem_mem hjl
   have hB:=hblk b hbm
   have hbv:=hB.v
   have hbp:=hB.p
   have hxc:=hxo.cols
   have hxf:=hxo.fk
   have hcV:=eG (vP b.v (by omega))
   have hcI:=eG (aAO b.p (by omega))
   have hbs:=VY hbm
   have hmul:b.n*n≤1000000000:=by
    have:=Nat.mul_le_mul (Nat.le_trans hbs hl3) hn.2
    omega
   have hwm:IntKind.i64.wrap ((b.n:Int)*n)=((b.n*n:Nat):Int):=by
    rw [show (b.n:Int)*n=((b.n*n:Nat):Int) from by simp]
    exact bL (by omega) (by omega)
   have hwj:=wI (n:=(j:Int)+1)
   have hsz:(l.take (j+1)).map (mW n)=(l.take j).map (mW n)++[mW n b]:=by rw [bI hjl,List.map_append,← hb]; rfl
   have hsc:(mW n b).c=[.int .i64 ((b.n*n:Nat):Int),.sl (b.v.map V.c),.sl (aD b.p)]:=rfl
   generalize hPn:b.n*n=P at *
   generalize (l.take j).map (mW n)=Z at *
   have htZ:(Z.map Bk.c).take j=Z.map Bk.c:=List.take_of_length_le (by simp [hZl])
   have htV:(b.v.map V.c).take b.v.length=b.v.map V.c:=List.take_of_length_le (by simp)
   have htI:(aD b.p).take b.p.length=aD b.p:=List.take_of_length_le (by simp [aD])
   have hIl:(aD b.p).length=b.p.length:=by simp [aD]
   simp [LG,hjl,hgb,Bk.c,hwm]
   (repeat' first|contradiction|exact .ok|apply And.intro|intro _|(apply gc<;>simp+contextual[hjl,hgb]))
   refine eM [] hcV (by simp) (by simp) (by simp) (by simp) (by simp) (by simp) (by simp) ?_
   simp
   (repeat' first|contradiction|exact .ok|apply And.intro|intro _|(apply gc<;>simp+contextual))
   refine eM [] hcI (by simp) (by simp) (by simp) (by simp) (by simp) (by simp) (by simp) ?_
   simp [htV,htI,hIl,hZl,gF (j+1) (by omega) 56 (by decide)]
   (repeat' first|contradiction|exact .ok|apply And.intro|intro _|(apply gc<;>simp+contextual))
   refine ⟨j+1,by omega,?_,by simp; omega⟩
   simp only [hsz]
   exact sM _ [(4,4,_),(6,6,_),(10,10,_),(910,910,_),(913,66,_)] (by simp [aB,Blk.live,hsc]) (by simp [aB,hwj])
  obtain rfl:j=l.length:=by omega
  rw [List.take_length] at *
  have htZ:((l.map (mW n)).map Bk.c).take l.length=(l.map (mW n)).map Bk.c:=List.take_of_length_le (by simp)
  generalize hZ:l.map (mW n)=Z at *
  simp [LG,hYl,hZl,htZ,gF (k+1) (by omega) 24 (by decide)]
  (repeat' first|contradiction|exact .ok|apply And.intro|intro _|(apply gc<;>simp+contextual))
  refine ⟨k+1,by omega,?_,by simp; omega⟩
  simp only [hsu]
  exact sM _ [(4,4,_),(6,6,_),(10,10,_),(910,72,_)] (by simp [aB,Blk.live,iG]) (by simp [aB,hw])
 obtain rfl:k=X.length:=by omega
 rw [List.take_length] at *
 have htY:((sW n X).map iG).take X.length=(sW n X).map iG:=List.take_of_length_le (by simp [hYl])
 simp [LG,hYl,htY]
 all_goals exact gz
theorem aEN {n:Nat} {X:List (List Bk)} {i:Nat} {l:List Bk} (h:(sW n X)[i]?=some l):∃ l0,X[i]?=some l0∧l=l0.map (mW n):=by
 unfold sW at h
 rw [List.getElem?_map,Option.map_eq_some_iff] at h
 obtain ⟨l0,h0,h1⟩:=h
 exact ⟨l0,h0,h1.symm⟩
theorem aGC {S:List Tb} {X:List (List Bk)} {x:Tb} {b:Bk} {n:Nat} (hn:1≤n) (h:OV S X x b):OV S (sW n X) x (mW n b) where
 n:=Nat.mul_le_mul h.n hn
 v:=h.v
 p:=h.p
 val:=h.val
 par:=by
  intro f g z hg hz
  obtain ⟨to,l,i,q,h1,h2,h3,h4,h5⟩:=h.par f g z hg hz
  refine ⟨to,l.map (mW n),i,mW n q,h1,?_,h3,?_,?_⟩
  ·unfold sW; rw [List.getElem?_map,h2]; rfl
  ·rw [List.getElem?_map,h4]; rfl
  ·exact Nat.mul_le_mul h5 hn
theorem aCp {S:List Tb} {X:List (List Bk)} (h:jS S X) {n:Nat} (hn:1≤n∧n≤10000000) (hfit:∀ l∈X,bD (aX l)≤100):jS S (sW n X) where
 len:=by unfold sW; rw [List.length_map]; exact h.len
 few:=h.few
 ok:=h.ok
 ch:=h.ch
 ty:=h.ty
 bl:=by
  intro l hl
  unfold sW at hl
  obtain ⟨l0,h0,rfl⟩:=List.mem_map.1 hl
  refine ⟨by rw [List.length_map]; exact (h.bl l0 h0).1,?_⟩
  rw [TH]
  have:=Nat.mul_le_mul (hfit l0 h0) hn.2
  omega
 blk:=by
  intro k x l hx hl b hb
  obtain ⟨l0,h0,rfl⟩:=aEN hl
  obtain ⟨b0,hb0,rfl⟩:=List.mem_map.1 hb
  exact aGC hn.1 (h.blk k x l0 hx h0 b0 hb0)
theorem aCq (n:Nat) (X:List (List Bk)) (i:Nat):dN (sW n X) i=(dN X i).map (mW n):=by
 unfold dN sW
 rw [List.getElem?_map]
 cases X[i]? <;> rfl
theorem aCr (S:List Tb) (X:List (List Bk)) (n:Nat) (l:List Nat) (path:List Int) (b:Bk):∀ i,qM S (dN (sW n X)) l path (mW n b) i=((qM S (dN X) l path b i).1,mW n (qM S (dN X) l path b i).2)
 | 0=>rfl
 | i+1=>by
   have e:=aCr S X n l path b i
   unfold qM
   rw [e]
   cases l[i+1]? with
   | none=>rfl
   | some k =>
     cases path[i]? with
     | none=>rfl
     | some f =>
       have ep:(mW n (qM S (dN X) l path b i).2).p=(qM S (dN X) l path b i).2.p:=rfl
       simp only [aCq,List.getElem?_map,ep]
       cases (dN X k)[(((qM S (dN X) l path b i).2.p[f.toNat]?).getD 0).toNat]? with
       | none=>rfl
       | some q=>rfl
theorem VZ (S:List Tb) (X:List (List Bk)) (n:Nat) (l:List Nat) (v:Vw):∀ L:List Bk,pU S (dN (sW n X)) l v (L.map (mW n))=pU S (dN X) l v L*n
 | []=>by simp [pU]
 | b::r=>by
   have e:=VZ S X n l v r
   have er:CN S (dN (sW n X)) l v (mW n b)=CN S (dN X) l v b:=by unfold CN; rw [aCr]
   have eb:(mW n b).n=b.n*n:=rfl
   rw [List.map_cons,pU,pU,e,er,eb,Nat.add_mul]
   split <;> simp
theorem QC {L:List Int} {S:List Tb} {blocks most a:Nat}:∀ {o j:Nat},o≤j→(nZ L S blocks most a o).1 j=[]
 | 0,j,_=>rfl
 | o+1,j,h=>by
   rw [yA]
   unfold DY
   simp only [bP]
   rw [if_neg (by omega)]
   exact QC (by omega)
theorem AL {T:Nat→List Bk} {n:Nat} (h:∀ j,n≤j→T j=[]):dN (aO T n)=T:=by
 funext j
 unfold dN
 rw [bE]
 split
 ·rfl
 ·rw [h j (by omega)]; rfl
theorem aDg {most:Nat}:∀ {l:List Bk},(∀ b∈l,b.n≤most)→bD (aX l)≤l.length*most
 | [],_=>by simp [aX,bD]
 | b::l,h=>by
   have h1:=h b (List.mem_cons_self ..)
   have h2:=aDg (l:=l) fun c hc=>h c (List.mem_cons_of_mem _ hc)
   have e:bD (aX (b::l))=b.n+bD (aX l):=rfl
   rw [e,List.length_cons,Nat.add_mul,Nat.one_mul]
   omega
structure SmyW (S:List Tb) (T:Nat→List Bk) (blocks most:Nat):Prop where
 fill:iP S
 dec:NJ S
 pln:mR S=true
 ch:∀ x∈S,x.ch=[]
 out:∀ j,S.length≤j→T j=[]
 ok:WE S T blocks most S.length
 few:blocks*most≤100000
 bl:blocks≤100
theorem SmyW.key {S:List Tb} {T:Nat→List Bk} {blocks most:Nat} (h:SmyW S T blocks most):∀ x∈S,iV x:=fun _ hx=>aCj h.fill h.pln hx
theorem SmyW.tab {S:List Tb} {T:Nat→List Bk} {blocks most:Nat} (_:SmyW S T blocks most) {k:Nat} (hk:k<S.length):aR S k∈S:=by
 unfold aR; rw [gE hk]; exact List.getElem_mem hk
theorem SmyW.tg {S:List Tb} {T:Nat→List Bk} {blocks most:Nat} (h:SmyW S T blocks most):∀ x∈S,∀ g∈x.fk,0≤tgt S g∧eR S g<S.length:=fun x hx g hg=>by
 obtain ⟨k,hk,rfl⟩:=List.getElem_of_mem hx
 have ht:aR S k=S[k]:=by unfold aR; rw [gE hk]; rfl
 have:=h.dec k hk g (by rw [ht]; exact hg)
 omega
theorem SmyW.sum {S:List Tb} {T:Nat→List Bk} {blocks most:Nat} (h:SmyW S T blocks most) (k:Nat):(T k).length≤blocks∧bD (aX (T k))≤blocks*most:=by
 by_cases hk:k<S.length
 ·obtain ⟨h1,h2⟩:=h.ok k hk
  have h3:=aDg fun b hb=>(h2 b hb).n.2
  have h4:=Nat.mul_le_mul_right most h1
  omega
 ·rw [h.out k (by omega)]
  simp [aX,bD]
theorem SmyW.sumok {S:List Tb} {T:Nat→List Bk} {blocks most:Nat} (h:SmyW S T blocks most):jS S (aO T S.length):=by
 have hfew:=h.fill.few
 have hb100:=h.few
 have hbb:=h.bl
 refine ⟨dR ..,by omega,h.fill.ok.ok,h.ch,h.fill.ty,fun l hl=>?_,fun k x l hk hl b hb=>?_⟩
 ·obtain ⟨j,hj,rfl⟩:=fE.1 hl
  have:=h.sum j
  omega
 ·rw [bE] at hl
  split at hl
  ·rename_i hkl
   rw [Option.some.injEq] at hl
   subst hl
   have htab:aR S k=x:=by unfold aR; rw [hk]; rfl
   have hB:=(h.ok k hkl).2 b hb
   rw [htab] at hB
   have hdk:=h.dec k hkl
   rw [htab] at hdk
   refine ⟨hB.n.1,hB.len,hB.par,fun c v u hv hu=>?_,fun f g z hg hz=>?_⟩
   ·obtain ⟨v1,v2⟩:=hB.val c v hv
    have huO:mX x c=u:=by unfold mX; rw [hu]; rfl
    rw [huO] at v2
    exact ⟨v1,v2.imp id fun e=>⟨e.1,by rw [e.2]; rfl⟩⟩
   ·obtain ⟨z0,z1⟩:=hB.tgt f g z hg hz
    obtain ⟨d0,d1⟩:=hdk g (List.mem_of_getElem? hg)
    have hto:eR S g<S.length:=by omega
    have hlt:z.toNat<(T (eR S g)).length:=by omega
    refine ⟨eR S g,T (eR S g),z.toNat,(T (eR S g))[z.toNat],by unfold eR; omega,by rw [bE,if_pos hto],by omega,gE hlt,?_⟩
    exact ((h.ok _ hto).2 _ (List.getElem_mem hlt)).n.1
  ·cases hl
theorem HW (L:List Int) (N:Nat) (hN:N≤6) (blocks most a:Nat) (hb:blocks≤100) (hm:1≤most) (hbm:blocks*most≤100000) :
  SmyW (fZ (bS L (0+1) N).1) (nZ L (fZ (bS L (0+1) N).1) blocks most a (fZ (bS L (0+1) N).1).length).1 blocks most:=by
 have hF:=YI L (0+1) N (by omega)
 have hD:NJ (fZ (bS L (0+1) N).1):=JO (CR (oN L (0+1) N))
 refine ⟨hF,hD,TB L (0+1) N hN,fun x hx=>?_,fun j hj=>QC hj,?_,hbm,hb⟩
 ·obtain ⟨y,_,rfl⟩:=List.mem_map.1 hx
  rfl
 ·unfold nZ
  refine WG L hD (fun k hk c hc=>?_) hm _ 0 _ (by omega) fun k hk=>absurd hk (by omega)
  have hx:aR (fZ (bS L (0+1) N).1) k∈fZ (bS L (0+1) N).1:=by unfold aR; rw [gE hk]; exact List.getElem_mem hk
  unfold mX
  rw [gE hc]
  exact hF.ty _ hx _ (List.getElem_mem hc)
theorem HO (L:List Int) (a n:Nat):∀ x∈fZ (bS L a n).1,qE x:=fun x hx=>by
 obtain ⟨k,hk⟩:=List.mem_iff_getElem?.1 hx
 obtain ⟨b,rfl⟩:=aBZ hk
 exact kE L k b
theorem WH (L:List Int) (a n:Nat) (hn:n≤6):∀ k,k<(fZ (bS L a n).1).length→mV (fZ (bS L a n).1) (FD (fZ (bS L a n).1) k)=k:=by
 have hD:NI (fZ (bS L a n).1):=CR (oN L a n)
 have hl:(fZ (bS L a n).1).length=n:=by rw [oP,dU]
 generalize fZ (bS L a n).1=S at *
 intro k hk
 have hx:S[k]?=some S[k]:=gE hk
 have hnm:FD S k=qC 116 k:=by unfold FD aR; rw [hx]; exact (hD k _ hx).1
 rw [hnm]
 unfold mV
 have:=pZ (p:=fun y:Tb=>y.n==qC 116 k) (k:=0) hx (by simp [(hD k _ hx).1]) (fun i y hi hy=>by
  simp only [beq_eq_false_iff_ne,ne_eq]
  rw [(hD i y hy).1]
  intro e
  have:=KF i (by omega) k (by omega) e
  omega)
 rw [this]
 simp
theorem aCK {S:List Tb} {X:List (List Bk)} (h:jS S X) {k:Nat} {x:Tb} {l:List Bk} (hk:S[k]?=some x) (hl:X[k]?=some l) (n:Nat):(qS S (dN X) x l n).length≤x.cols.length:=by
 unfold qS
 split
 ·rename_i b hb
  have:=(h.blk k x l hk hl b (List.mem_of_getElem? hb)).v
  unfold qG
  rw [mP,List.length_set]
  omega
 ·simp
end Go.Proofs.Tryz
