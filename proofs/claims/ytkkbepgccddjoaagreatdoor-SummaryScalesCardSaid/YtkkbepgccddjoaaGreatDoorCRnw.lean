import Derived.Test.YtkkbepgccddjoaaGreatDoorCSmb
import Derived.Test.YtkkbepgccddjoaaGreatDoorCEnvR
import Derived.Test.YtkkbepgccddjoaaGreatDoorCRwc
import Derived.Test.YtkkbepgccddjoaaGreatDoorCShr
import Derived.Test.YtkkbepgccddjoaaGreatDoorCSmc
import Derived.Test.YtkkbepgccddjoaaGreatDoorCClo
set_option linter.all false
namespace Go.Proofs.Tryz
open Go.Ab
set_option maxRecDepth 100000
set_option maxHeartbeats 8000000
structure jS (S:List Tb) (X:List (List Bk)):Prop where
 len:X.length=S.length
 few:S.length≤1000
 ok:∀ x∈S,x.ok
 ch:∀ x∈S,x.ch=[]
 ty:∀ x∈S,∀ u∈x.cols,u.t=1∨u.t=2∨u.t=3
 bl:∀ l∈X,l.length≤900∧bD (aX l)≤1000000000
 blk:∀ (k:Nat) (x:Tb) (l:List Bk),S[k]?=some x→X[k]?=some l→∀ b∈l,OV S X x b
theorem wN {S:List Tb} {X:List (List Bk)} (h:jS S X) (hpl:Cf Es 59 [aN S] [] (.d (.bool true)) []) :
  Cf Es 34 [aN S,cP X] [] (.d (.int .i64 0)) []:=by
 refine cI bM (fn:=Tryz.f34) rfl ?_
 have hfew:=h.few
 have hXl:=h.len
 simp [aN,cP]
 (repeat' first|contradiction|exact .ok|apply And.intro|intro _|(apply gc<;>simp+contextual))
 refine aA hpl (by simp [aN]) ?_
 simp [hXl]
 (repeat' first|contradiction|exact .ok|apply And.intro|intro _|(apply gc<;>simp+contextual[hXl]))
 refine aL bM (fun k:Nat=>{ s:=cE [(2,.ptr 2 0 0),(3,.ptr 3 0 0),(23,.d (.sl (X.map iG))),(24,.d (.int .i64 X.length)),(25,.d (.int .i64 k))],b:=cC [(2,2,.var [.d (.sl (S.map Tb.c))]),(3,3,.var [.d (.sl (X.map iG))])] }) (fun k=>k≤X.length) (fun k=>X.length - k) 0 (by simp)
  (sM _ [(2,2,_),(3,3,_)] (by simp [aB,Blk.live]) (by simp [aB,hXl])) ?_
 intro k hk
 by_cases hkl:k<X.length
 ·obtain ⟨l,hl⟩:∃ l,l=X[k]:=⟨_,rfl⟩
  have hgl:∀ h,X[k]'h=l:=fun _=>hl.symm
  have hkS:k<S.length:=by omega
  obtain ⟨x,hx⟩:∃ x,x=S[k]:=⟨_,rfl⟩
  have hxm:x∈S:=by rw [hx]; exact List.getElem_mem hkS
  obtain ⟨l1,l2⟩:=h.bl l (by rw [hl]; exact List.getElem_mem hkl)
  have hb:=h.blk k x l (by rw [gE hkS,hx]) (by rw [gE hkl,hl])
  have hc:=eG (wL l l1)
  have ho:=eG (sQ (aX l) (by rw [eD]; omega) l2)
  have hw:=wI (n:=(k:Int)+1)
  have h2000:¬ (2000:Int)<l.length:=by omega
  have h2000n:¬ 2000<l.length:=by omega
  simp [hkl,hgl,iG]
  (repeat' first|contradiction|exact .ok|apply And.intro|intro _|(apply gc<;>simp+contextual))
  refine aP hc ?_
  simp
  refine aP ho ?_
  simp [h2000]
  (repeat' first|contradiction|exact .ok|apply And.intro|intro _|(apply gc<;>simp+contextual[h2000,h2000n]))
  refine aL bM (fun j:Nat=>{ s:=cE [(2,.ptr 2 0 0),(3,.ptr 3 0 0),(5,.d (.int .i64 k)),(23,.d (.sl (X.map iG))),(24,.d (.int .i64 X.length)),(25,.d (.int .i64 k)),(43,.d (.sl (l.map Bk.c))),(44,.d (.int .i64 l.length)),(45,.d (.int .i64 j))],b:=cC [(2,2,.var [.d (.sl (S.map Tb.c))]),(3,3,.var [.d (.sl (X.map iG))])] }) (fun j=>j≤l.length) (fun j=>l.length - j) 0 (by simp)
   (sM _ [(2,2,_),(3,3,_)] (by simp [aB,Blk.live]) (by simp [aB])) ?_
  intro j hj
  by_cases hjl:j<l.length
  ·obtain ⟨b,hb0⟩:∃ b,b=l[j]:=⟨_,rfl⟩
   have hgb:∀ h,l[j]'h=b:=fun _=>hb0.symm
   have hbl:=eG (aET S hfew h.ok X (by omega) k x (by rw [gE hkS,hx]) (h.ch x hxm) (h.ty x hxm) b (hb b (by rw [hb0]; exact List.getElem_mem hjl)))
   have hwj:=wI (n:=(j:Int)+1)
   simp [hjl,hgb,Bk.c]
   (repeat' first|contradiction|exact .ok|apply And.intro|intro _|(apply gc<;>simp+contextual))
   refine aA hbl (by simp [aN,cP,Bk.c]) ?_
   simp
   (repeat' first|contradiction|exact .ok|apply And.intro|intro _|(apply gc<;>simp+contextual))
   refine ⟨j+1,by omega,?_,by simp; omega⟩
   exact sM _ [(2,2,_),(3,3,_)] (by simp [aB,Blk.live]) (by simp [aB,hwj])
  obtain rfl:j=l.length:=by omega
  simp
  (repeat' first|contradiction|exact .ok|apply And.intro|intro _|(apply gc<;>simp+contextual))
  refine ⟨k+1,by omega,?_,by simp; omega⟩
  exact sM _ [(2,2,_),(3,3,_)] (by simp [aB,Blk.live]) (by simp [aB,hw])
 obtain rfl:k=X.length:=by omega
 simp
 all_goals exact gz
theorem mP {S:List Tb} {X:Nat→List Bk} {b:Bk} {j:Nat}:∀ (gs:List Fk) (f:Nat) (r:List V),(fW S X b j gs f r).length=r.length
 | [],_,r=>rfl
 | g::gs,f,r=>by rw [fW,mP gs,List.length_set]
theorem sC {S:List Tb} {X:Nat→List Bk} {b:Bk} {j c:Nat}:∀ {gs:List Fk} {f:Nat} {r:List V},(∀ g∈gs,(eA g.cols).toNat ≠ c)→(fW S X b j gs f r)[c]?=r[c]?
 | [],_,r,_=>rfl
 | g::gs,f,r,h=>by
   rw [fW,sC fun q hq=>h q (List.mem_cons_of_mem _ hq),List.getElem?_set_ne (h g (List.mem_cons_self ..))]
theorem KR {S:List Tb} {X:Nat→List Bk} {b:Bk} {j:Nat}:∀ {gs:List Fk} {f i:Nat} {g:Fk} {r:List V},(gs.map fun g=>(eA g.cols).toNat).Nodup→gs[i]?=some g→(eA g.cols).toNat<r.length →
  (fW S X b j gs f r)[(eA g.cols).toNat]?=some (jK (sB (aX (X (eR S g))) ((b.p[f+i]?).getD 0).toNat j+1:Nat))
 | [],_,i,g,r,_,h,_=>by simp at h
 | q::gs,f,0,g,r,hn,h,hl=>by
   simp only [List.getElem?_cons_zero,Option.some.injEq] at h
   subst h
   rw [List.map_cons,List.nodup_cons] at hn
   rw [fW,sC (fun p hp e=>hn.1 (List.mem_map.2 ⟨p,hp,e⟩)),List.getElem?_set_self hl]
   rfl
 | q::gs,f,i+1,g,r,hn,h,hl=>by
   rw [List.map_cons,List.nodup_cons] at hn
   rw [List.getElem?_cons_succ] at h
   rw [fW,KR hn.2 h (by rw [List.length_set]; exact hl)]
   rw [show f+1+i=f+(i+1) from by omega]
theorem HM {x:Tb} (h:iV x):(x.fk.map fun g=>(eA g.cols).toNat).Nodup:=by
 have hd:=h.dis
 unfold List.Nodup at hd ⊢
 rw [List.pairwise_map] at hd ⊢
 refine List.Pairwise.imp_of_mem (fun {a b} ha hb hab e=>?_) hd
 obtain ⟨c,c1,_,_⟩:=h.fk a ha
 obtain ⟨d,d1,_,_⟩:=h.fk b hb
 rw [c1,d1] at hab e
 simp only [eA,List.headD_cons,Int.toNat_natCast] at hab e
 exact hab (by rw [e])
def jO (S:List Tb) (X:Nat→List Bk) (k:Nat):List (List V):=jN S X (aR S k) (X k) 0 (bD (aX (X k)))
theorem sD (S:List Tb) (X:Nat→List Bk) (k:Nat):(jO S X k).length=bD (aX (X k)):=by
 unfold jO jN
 rw [dR]; omega
theorem aEW {l:List Bk} (h:∀ q∈l,1≤q.n) {i:Nat} (hi:i<(aX l).length):0<(aX l)[i]:=by
 have hm:(aX l)[i]∈l.map Bk.n:=List.getElem_mem hi
 obtain ⟨q,hq,e⟩:=List.mem_map.1 hm
 rw [← e]
 exact h q hq
theorem aEX {S:List Tb} {X:Nat→List Bk} {most:Nat} {x:Tb} (hx:iV x) {b:Bk} (hb:KQ S X most x b) (hX:∀ g∈x.fk,∀ q∈X (eR S g),1≤q.n) (j n:Nat):HE S (jO S X) x n (qG S X x b j n):=by
 obtain ⟨p,hp,hpl⟩:=hx.pr
 have hpc:(eA x.pr).toNat=p:=by rw [hp]; simp [eA]
 refine ⟨by unfold qG; rw [mP,List.length_set]; exact hb.len,?_,fun f hf=>?_,fun c hc hk v hv=>?_⟩
 ·unfold qG
  rw [sC]
  ·rw [List.getElem?_set_self (by rw [hb.len,hpc]; exact hpl)]
   rw [show ((n+1:Nat):Int)=(n:Int)+1 from by omega]
  ·intro f hf
   obtain ⟨c,e1,_,c2⟩:=hx.fk f hf
   rw [e1,hpc]
   rw [hp] at c2
   simp [eA] at c2 ⊢
   omega
 ·obtain ⟨i,hi,rfl⟩:=List.getElem_of_mem hf
  obtain ⟨c,e1,c1,_⟩:=hx.fk _ hf
  have hfc:(eA x.fk[i].cols).toNat=c:=by rw [e1]; simp [eA]
  have hpi:i<b.p.length:=by rw [hb.par]; exact hi
  obtain ⟨z0,z1⟩:=hb.tgt i x.fk[i] b.p[i] (gE hi) (gE hpi)
  refine ⟨sB (aX (X (eR S x.fk[i]))) (b.p[i]).toNat j,?_,?_⟩
  ·unfold qG
   rw [KR (HM hx) (gE hi) (by rw [List.length_set,hb.len,hfc]; exact c1),Nat.zero_add,gE hpi,Option.getD_some]
   congr 2
   omega
  ·rw [sD]
   have hz:(b.p[i]).toNat<(aX (X (eR S x.fk[i]))).length:=by unfold aX; rw [List.length_map]; omega
   exact AG hz (aEW (hX _ hf) hz)
 ·obtain ⟨k1,k2⟩:=DO hk
  unfold qG at hv
  rw [sC] at hv
  ·rw [List.getElem?_set_ne (by
    rw [hpc]
    intro e
    subst e
    exact k1 (by rw [hp]; simp))] at hv
   exact hb.val c v hv
  ·intro f hf e
   obtain ⟨d,e1,_,_⟩:=hx.fk f hf
   have:=k2 f hf
   rw [e1] at this e
   simp [eA] at this e
   omega
theorem aGP {S:List Tb} (hd:NJ S) (hK:∀ x∈S,iV x) {X:Nat→List Bk} {blocks most:Nat} (h:WE S X blocks most S.length):OP S (jO S X) S.length:=fun k hk n row hr=>by
 have hx:aR S k∈S:=by unfold aR; rw [gE hk]; exact List.getElem_mem hk
 obtain ⟨_,hb⟩:=h k hk
 unfold jO jN at hr
 rw [bE] at hr
 split at hr
 ·rename_i hn
  rw [Option.some.injEq,Nat.zero_add] at hr
  subst hr
  obtain ⟨h1,h2,h3⟩:=lU (l:=aX (X k)) (n:=n) (by omega)
  unfold qS
  have hl:(eP (aX (X k)) n).1<(X k).length:=by unfold aX at h1 ⊢; rwa [List.length_map] at h1
  rw [gE hl]
  exact aEX (hK _ hx) (hb _ (List.getElem_mem hl)) (fun g hg q hq=>((h (eR S g) (by have:=(hd k hk g hg).2; omega)).2 q hq).n.1) _ n
 ·cases hr
theorem OZ (n:Int):Cf En 87 [.d (.int .i64 n)] [] (V.a ⟨1,n,[]⟩) []:=by
 refine cI aW (fn:=Tryz.f87) rfl ?_
 simp [V.a]
 all_goals exact gz
def dN (X:List (List Bk)) (i:Nat):List Bk:=(X[i]?).getD []
def nY (S:List Tb) (X:List (List Bk)) (l:List Fk):List (List Nat):=l.map fun g=>aX (dN X (eR S g))
def FH (c:List Nat):List D:=[.sl (aD (aJ c))]
def TO (S:List Tb) (X:List (List Bk)) (x:Tb) (l:List Bk):AV:=.agg (x.c.map AV.d++[.d (.sl (l.map Bk.c)),.d (.sl (aD (aJ (aX l)))),.d (.sl ((nY S X x.fk).map FH))])
theorem aCC {S:List Tb} {X:List (List Bk)} (h:jS S X) (ht:∀ x∈S,∀ g∈x.fk,0≤tgt S g∧eR S g<S.length) {k:Nat} {x:Tb} {l:List Bk} (hk:S[k]?=some x) (hl:X[k]?=some l) :
  Cf En 48 [aN S,cP X,.d (.int .i64 k)] [] (TO S X x l) []:=by
 refine cI aW (fn:=Tryz.f48) rfl ?_
 obtain ⟨hkl,hgx0⟩:=List.getElem?_eq_some_iff.1 hk
 obtain ⟨hkX,hgl0⟩:=List.getElem?_eq_some_iff.1 hl
 have hgx:∀ h,S[k]'h=x:=fun _=>hgx0
 have hgl:∀ h,X[k]'h=l:=fun _=>hgl0
 have hxm:x∈S:=by rw [← hgx0]; exact List.getElem_mem hkl
 have hlm:l∈X:=by rw [← hgl0]; exact List.getElem_mem hkX
 have hxo:=h.ok x hxm
 have hfl:=hxo.fk
 have hfew:=h.few
 have hXl:=h.len
 obtain ⟨hl1,hl2⟩:=h.bl l hlm
 have hc:=wL l hl1
 have hxf:=ht x hxm
 simp [aN,cP,hkl,hgx,hkX,hgl,Tb.c,iG]
 (repeat' first|contradiction|exact .ok|apply And.intro|intro _|(apply gc<;>simp+contextual[hkl,hgx,hkX,hgl,Tb.c,iG]))
 refine aP hc ?_
 simp
 (repeat' first|contradiction|exact .ok|apply And.intro|intro _|(apply gc<;>simp+contextual))
 refine aL aW (fun f:Nat=>{ s:=cE [(2,.d (.int .i64 k)),(3,.ptr 3 0 0),(4,.ptr 4 0 0),(6,.ptr 6 0 0),(7,.ptr 7 0 0),(31,.d (.int .i64 x.fk.length)),(32,.d (.int .i64 f))],b:=cC [(3,3,.var [.d (.sl (S.map Tb.c))]),(4,4,.var [.d (.sl (X.map iG))]),(6,6,.var [.d (.str []),.nils,.nils,.nils,.nils,.nils,.nils,.nils,.nils]),(7,7,.var (x.c.map AV.d++[.d (.sl (l.map Bk.c)),.d (.sl (aD (aJ (aX l)))),.ref 903 0 f 1])),(903,903,.arr 22 1 ((nY S X (x.fk.take f)).map FH) false)] }) (fun f=>f≤x.fk.length) (fun f=>x.fk.length - f) 0 (by simp)
  ((iH 7 903 22 1 8 (cells:=x.c.map AV.d++[.d (.sl (l.map Bk.c)),.d (.sl (aD (aJ (aX l)))),.nils]) (by simp [Tb.c]) rfl (by simp) (by decide) (by decide)).trans (sM _ [(3,3,_),(4,4,_),(6,6,_),(7,7,_),(903,903,_)] (by simp [aB,Blk.live,Tb.c,nY,bP]) (by simp [aB]))) ?_
 intro f hf
 have hPl:(nY S X (x.fk.take f)).length=f:=by unfold nY; rw [List.length_map,List.length_take]; omega
 by_cases hlf:f<x.fk.length
 ·obtain ⟨g,hg⟩:∃ g,g=x.fk[f]:=⟨_,rfl⟩
  have hgm:g∈x.fk:=by rw [hg]; exact List.getElem_mem hlf
  obtain ⟨t0,t1⟩:=hxf g hgm
  obtain ⟨to,hto⟩:∃ t:Nat,tgt S g=t:=⟨(tgt S g).toNat,by omega⟩
  have htN:eR S g=to:=by unfold eR; rw [hto]; rfl
  have htX:to<X.length:=by omega
  obtain ⟨q,hq⟩:∃ q,q=X[to]:=⟨_,rfl⟩
  have hgq:∀ h,X[to]'h=q:=fun _=>hq.symm
  obtain ⟨hq1,hq2⟩:=h.bl q (by rw [hq]; exact List.getElem_mem htX)
  have hqc:=wL q hq1
  have hpar:nY S X (x.fk.take (f+1))=nY S X (x.fk.take f)++[aX q]:=by
   unfold nY
   rw [bI hlf,List.map_append,← hg,List.map_cons,List.map_nil,htN]
   unfold dN
   rw [gE htX,← hq]
   rfl
  have hw:=wI (n:=(f:Int)+1)
  have hta:=EH S hfew h.ok hkl hgx0 hlf rfl
  rw [← hg,cN (show aV (fun y:Tb=>y.n==g.t) S 0=to from hto)] at hta
  have htk:((nY S X (x.fk.take f)).map FH).take f=(nY S X (x.fk.take f)).map FH:=List.take_of_length_le (by simp [hPl])
  generalize nY S X (x.fk.take f)=P at *
  simp [hlf,Tb.c]
  (repeat' first|contradiction|exact .ok|apply And.intro|intro _|(apply gc<;>simp+contextual))
  refine aA hta (by simp [aN]) ?_
  simp [htX,hgq,iG]
  (repeat' first|contradiction|exact .ok|apply And.intro|intro _|(apply gc<;>simp+contextual[htX,hgq,iG,Tb.c]))
  refine aP hqc ?_
  simp [hPl,gF (f+1) (by omega) 24 (by decide)]
  (repeat' first|contradiction|exact .ok|apply And.intro|intro _|(apply gc<;>simp+contextual))
  refine ⟨f+1,by omega,?_,by simp; omega⟩
  simp only [hpar]
  exact sM _ [(3,3,_),(4,4,_),(6,6,_),(7,7,_),(903,51,_)] (by simp [aB,Blk.live,FH]) (by simp [aB,hw])
 obtain rfl:f=x.fk.length:=by omega
 rw [List.take_length] at *
 have htk:((nY S X x.fk).map FH).take x.fk.length=(nY S X x.fk).map FH:=List.take_of_length_le (by simp [hPl])
 simp [Tb.c,hPl,htk,TO]
 all_goals exact gz


end Go.Proofs.Tryz
