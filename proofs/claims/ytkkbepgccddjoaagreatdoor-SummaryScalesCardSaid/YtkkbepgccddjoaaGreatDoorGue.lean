import Derived.Test.YtkkbepgccddjoaaGreatDoorCSmc
import Derived.Test.YtkkbepgccddjoaaGreatDoorAbB
set_option linter.all false
namespace Go.Proofs.Tryz
open Go.Ab
set_option maxRecDepth 100000
set_option maxHeartbeats 8000000
def gdC (T:Nat→List (List V)) (P:List Int) (j:Nat):AV:=if (j:Int)∈P then .d (.sl ((T j).map gO)) else .nils
def LD (T:Nat→List (List V)) (P:List Int) (i:Nat) (q:AV) (j:Nat):List AV:=if j=i then [q] else [gdC T P j]
def JT (T:Nat→List (List V)) (P:List Int) (j:Nat):List AV:=[gdC T P j]
theorem aBc {T:Nat→List (List V)} {P:List Int} {j:Nat} {r:Nat→Option Nat} {bl:Nat→Blk}:(dP r bl true (gdC T P j)).1=gdC T P j:=by
 unfold gdC
 split <;> simp [dP]
theorem JU {T:Nat→List (List V)} {P:List Int} {N:Nat} {r:Nat→Option Nat} {bl:Nat→Blk}:(aO (JT T P) N).map (fun x=>(cS r bl true x).1)=aO (JT T P) N:=by
 rw [dB]
 refine bV fun j _=>?_
 simp [JT,cS,aBc]
theorem uA {T:Nat→List (List V)} {P:List Int} {i:Nat} {q:AV} {N:Nat} {r:Nat→Option Nat} {bl:Nat→Blk}:(aO (LD T P i q) N).map (fun x=>(cS r bl true x).1)=aO (LD T P i (dP r bl true q).1) N:=by
 rw [dB]
 refine bV fun j _=>?_
 unfold LD
 split
 ·simp [cS]
 ·simp [cS,aBc]
theorem aDU {T:Nat→List (List V)} {P:List Int} {i:Nat} (h:(i:Int) ∉ P):LD T P i .nils=JT T P:=by
 funext j
 unfold LD JT
 split
 ·rename_i e
  subst e
  unfold gdC
  rw [if_neg h]
 ·rfl
theorem aBd {T:Nat→List (List V)} {P:List Int} {i:Nat} {R:List (List V)} (h:(i:Int) ∉ P):LD T P i (.d (.sl (R.map gO)))=JT (bP T i R) (P++[(i:Int)]):=by
 funext j
 unfold LD JT gdC bP
 by_cases e:j=i
 ·subst e
  simp
 ·have:¬ (j:Int)=i:=by omega
  simp [e,this]
theorem VB {T:Nat→List (List V)} {P:List Int} {i N:Nat} {q q':AV}:(aO (LD T P i q) N).set i [q']=aO (LD T P i q') N:=by
 rw [kR]
 refine bV fun j _=>?_
 unfold LD
 split <;> rfl
theorem aBe {T:Nat→List (List V)} {N:Nat}:aO (JT T []) N=List.replicate N [.nils]:=by
 rw [lY]
 exact bV fun j _=>by simp [JT,gdC]
theorem xN {f:Nat→List AV} {N j:Nat} (h:j<N):∀ hh,(aO f N)[j]'hh=f j:=fun hh=>by
 have:=bE f N j
 rw [gE hh,if_pos h] at this
 exact Option.some.inj this
theorem aFW (L:List Int) (S:List Tb) (h:iP S) (most:Nat) (hm:most≤100) (a:Nat) (ha:a≤800000) :
  Cf En 19 [.ptr 1000000 0 0,aN S,.d (.int .i64 most)] [aQ L a] (dT (CY L S most a).1) [aQ L (CY L S most a).2]:=by
 refine cI aW (fn:=Tryz.f19) rfl ?_
 have hl:=h.ok.len
 have hfew:=h.few
 have hO:=VL S
 have hOl:=OE S
 have hfill:∀ o,(gP L S most a o).2≤a+28010:=fun o=>by
  have:=DA (L:=L) h hm ((gB S).1.take o) (fun _=>[],a) fun z hz=>hO.rng z (List.mem_of_mem_take hz)
  have h2:((gB S).1.take o).length≤10:=by rw [List.length_take]; omega
  have h3:((gB S).1.take o).length*2801≤10*2801:=Nat.mul_le_mul_right _ h2
  unfold gP
  omega
 obtain ⟨O,hOe⟩:∃ O,O=(gB S).1:=⟨_,rfl⟩
 have hor:=DI S hl h.ok.ok
 have hgood:CY L S most a=(aO (gP L S most a O.length).1 S.length,(gP L S most a O.length).2):=by rw [hOe]; rfl
 rw [hgood]
 have hstep:∀ o i:Nat,∀ ho:o<O.length,O[o]=i→gP L S most a (o+1)=nK L S most i (gP L S most a o):=fun o i ho hi=>by
  subst hOe
  exact SH ho hi
 have hz0:gP L S most a 0=(fun _=>[],a):=rfl
 have hout:∀ j:Nat,(j:Int) ∉ O→(gP L S most a O.length).1 j=[]:=fun j hj=>by
  unfold gP
  rw [hOe] at hj
  exact GO _ _ (fun z hz=>(hO.rng z (List.mem_of_mem_take hz)).1) fun hm=>hj (List.mem_of_mem_take hm)
 have hrows:∀ o j:Nat,((gP L S most a o).1 j).length≤most:=fun o j=>tZ _ _ (fun _=>by simp) j
 rw [← hOe] at hO hOl hor
 clear hOe hgood
 generalize gP L S most a=Z at *
 have hsz:(S.length:Int)*24≤281474976710656:=by omega
 have hsz2:=(mk8 S.length hl).1
 simp [aN,aQ,hsz2,show 24*(S.length:Int)≤281474976710656 from by omega]
 (repeat' first|contradiction|exact .ok|apply And.intro|intro _|(apply gc<;>simp+contextual))
 refine aA hor (by simp [aN]) ?_
 simp
 (repeat' first|contradiction|exact .ok|apply And.intro|intro _|(apply gc<;>simp+contextual))
 refine xA aW (by decide) (fun o:Nat=>{ s:=cE [(0,.ptr 1000000 0 0),(2,.d (.int .i64 most)),(4,.ptr 4 0 0),(6,.ptr 6 0 0),(7,.ptr 7 0 0),(8,.d (.sl (aD O))),(10,.d (.int .i64 o))],b:=cC [(1000000,1000000,aQ L (Z o).2),(4,4,.var [.d (.sl (S.map Tb.c))]),(6,6,.var [.nils]),(7,7,.var [.ref 901 0 S.length 1]),(901,901,.varr 43 1 (aO (JT (Z o).1 (O.take o)) S.length))] })
  (fun o=>o≤O.length) (fun o=>O.length - o) 0 (by simp) 0
  { s:=cE [(6,.ptr 6 0 0),(7,.ptr 7 0 0)],b:=cC [(1000000,1000000,aQ L (Z O.length).2),(6,6,.var [.nils]),(7,7,.var [.ref 901 0 S.length 1]),(901,901,.arr 43 1 (aO (fun j=>[.sl (((Z O.length).1 j).map gO)]) S.length) false)] }
  ((lX 26 (m:=S.length) (ety:=43) (by simp [EM])).trans (aI _ [(1000000,1000000,_),(4,4,_),(6,6,_),(7,7,_),(901,26,_)] ⟨by simp,by simp,by simp [aB,Blk.live,aQ,hz0,aBe],bK⟩ (by simp [aB]))) ?_ ?_
 rotate_left
 ·have htk:∀ f:Nat→List D,(aO f S.length).take S.length=aO f S.length:=fun f=>List.take_of_length_le (by simp)
  simp [aQ,htk,dT,dB,fY]
  (repeat' first|contradiction|exact .ok|apply And.intro|intro _|(apply gc<;>simp+contextual))
  all_goals (try simp [aQ,htk,dT,dB,fY])
 intro o ho
 by_cases hol:o<O.length
 ·obtain ⟨hi0,hi1⟩:=hO.rng O[o] (List.getElem_mem hol)
  obtain ⟨i,hi⟩:∃ i:Nat,O[o]=i:=⟨O[o].toNat,by omega⟩
  have hil:i<S.length:=by omega
  obtain ⟨x,hx⟩:∃ x,x=S[i]:=⟨_,rfl⟩
  have hgx:∀ h,S[i]'h=x:=fun _=>hx.symm
  have hxm:x∈S:=by rw [hx]; exact List.getElem_mem hil
  have hgo:=eE hol
  rw [hi] at hgo
  have hgo2:∀ h,O[o]'h=(i:Int):=fun _=>hi
  have hfko:LF S i=x.fk:=by unfold LF; rw [gE hil,← hx]
  have hbef:=hO.bef o hol
  rw [hi,Int.toNat_natCast,hfko] at hbef
  have hiP:(i:Int) ∉ O.take o:=fun hmem=>by
   obtain ⟨j,hj,e⟩:=List.mem_take_iff_getElem.1 hmem
   rw [← hi] at e
   exact List.pairwise_iff_getElem.1 hO.nd j o (by omega) hol (by omega) (by rw [e])
  have hst:=hstep o i hol hi
  have htab:aR S i=x:=by unfold aR; rw [gE hil,← hx]; rfl
  have htk:O.take (o+1)=O.take o++[(i:Int)]:=by rw [bI hol,hi]
  have hb:=hfill o
  obtain ⟨T,b,hZ⟩:∃ T b,Z o=(T,b):=⟨_,_,rfl⟩
  have hTl:=hrows o
  rw [hZ] at hst hb hTl
  unfold nK at hst
  rw [htab] at hst
  simp only [hZ] at hb hst hTl ⊢
  generalize hP:O.take o=P at *
  have hcols:=h.cols x hxm
  obtain ⟨hp1,hp2,hp3⟩:=h.pr x hxm
  obtain ⟨hf8,hfx⟩:=h.fk x hxm
  have htyx:=h.ty x hxm
  have hwo:=wI (n:=(o:Int)+1)
  have hw1:=wI (n:=(most:Int)+1)
  obtain ⟨hn1,hn2⟩:=CZ L b (n:=(most:Int)+1) (by omega)
  have htn:=dH L b (by omega) ((most:Int)+1) (by omega) (by omega)
  rw [← hn1] at htn
  clear hstep hfill hn1 hrows
  generalize yV L b ((most:Int)+1)=n0 at *
  simp [aQ,hol,hgo2,hil,hgx,Tb.c,hw1]
  (repeat' first|contradiction|exact .ok|apply And.intro|intro _|(apply gc<;>simp+contextual))
  refine aH [1000000] htn (by simp [aQ]) (by simp) ?_
  simp [aQ]
  (repeat' first|contradiction|exact .ok|apply And.intro|intro _|(apply gc<;>simp+contextual))
  refine aL aW (fun f:Nat=>{ s:=cE [(0,.ptr 1000000 0 0),(2,.d (.int .i64 most)),(4,.ptr 4 0 0),(6,.ptr 6 0 0),(7,.ptr 7 0 0),(8,.d (.sl (aD O))),(10,.d (.int .i64 o)),(11,.d (.int .i64 i)),(12,.ptr 12 0 0),(13,.d (.int .i64 (xM S x T n0 f))),(14,.d (.int .i64 f))],b:=cC [(1000000,1000000,aQ L (b+1)),(4,4,.var [.d (.sl (S.map Tb.c))]),(6,6,.var [.nils]),(7,7,.var [.ref 901 0 S.length 1]),(901,901,.varr 43 1 (aO (JT T P) S.length)),(12,12,.var (x.c.map AV.d))] })
   (fun f=>f≤x.fk.length) (fun f=>x.fk.length - f) 0 (by simp)
   (aI _ [(1000000,1000000,_),(4,4,_),(6,6,_),(7,7,_),(901,901,_),(12,12,_)] ⟨by simp,by simp,by simp [aB,Blk.live,aQ,Tb.c,JU],bK⟩ (by simp [aB,xM])) ?_
  intro f hf
  by_cases hfl:f<x.fk.length
  ·obtain ⟨g,hg⟩:∃ g,g=x.fk[f]:=⟨_,rfl⟩
   have hgg:∀ h,x.fk[f]'h=g:=fun _=>hg.symm
   have hgm:g∈x.fk:=by rw [hg]; exact List.getElem_mem hfl
   have hwf:=wI (n:=(f:Int)+1)
   have hto:=hbef g hgm
   have hns:=YM (S:=S) (T:=T) (n:=n0) hfl
   rw [← hg] at hns
   obtain ⟨ht0,ht1⟩:=hO.rng (tgt S g) (List.mem_of_mem_take (by rw [hP]; exact hto))
   obtain ⟨to,hte⟩:∃ t:Nat,tgt S g=t:=⟨(tgt S g).toNat,by omega⟩
   have htl:to<S.length:=by omega
   have htg:eR S g=to:=by unfold eR; rw [hte]; rfl
   rw [htg] at hns
   rw [hte] at hto
   have hcell:∀ h,(aO (JT T P) S.length)[to]'h=[.d (.sl ((T to).map gO))]:=fun hh=>by rw [xN htl]; unfold JT gdC; rw [if_pos hto]
   simp [aQ,hfl,Tb.c]
   (repeat' first|contradiction|exact .ok|apply And.intro|intro _|(apply gc<;>simp+contextual))
   refine aA (gH S hl h.ok.ok hil hx.symm hfl hg.symm) (by simp [aN]) ?_
   rw [cN (show aV (fun y:Tb=>y.n==g.t) S 0=to from hte)]
   by_cases h0:(T to).length=0
   ·rw [if_pos h0] at hns
    have h0i:((T to).length:Int)=0:=by omega
    simp [htl,hcell,h0]
    (repeat' first|contradiction|exact .ok|apply And.intro|intro _|(apply gc<;>simp+contextual[h0,h0i]))
    refine ⟨f+1,by omega,?_,by simp; omega⟩
    simp only [hns]
    exact aI _ [(1000000,1000000,_),(4,4,_),(6,6,_),(7,7,_),(901,901,_),(12,12,_)] ⟨by simp,by simp,by simp [aB,Blk.live,JU],bK⟩ (by simp [aB,hwf])
   ·rw [if_neg h0] at hns
    have h0i:¬ ((T to).length:Int)=0:=by omega
    simp [htl,hcell,h0]
    (repeat' first|contradiction|exact .ok|apply And.intro|intro _|(apply gc<;>simp+contextual[h0,h0i]))
    refine ⟨f+1,by omega,?_,by simp; omega⟩
    simp only [hns]
    exact aI _ [(1000000,1000000,_),(4,4,_),(6,6,_),(7,7,_),(901,901,_),(12,12,_)] ⟨by simp,by simp,by simp [aB,Blk.live,JU],bK⟩ (by simp [aB,hwf])
  obtain rfl:f=x.fk.length:=by omega
  have hpos:=fun k (hk:k<xM S x T n0 x.fk.length)=>NS hk
  have hnle:=JS S x T n0 x.fk.length
  generalize xM S x T n0 x.fk.length=n at *
  simp [aQ,Tb.c]
  (repeat' first|contradiction|exact .ok|apply And.intro|intro _|(apply gc<;>simp+contextual))
  have hci:(aO (JT T P) S.length)[i]?=some [.nils]:=by
   rw [bE,if_pos hil]
   unfold JT gdC
   rw [if_neg hiP]
  have hset0:(aO (JT T P) S.length).set i [.ref 905 0 0 1]=aO (LD T P i (.ref 905 0 0 1)) S.length:=by rw [← aDU hiP,VB]
  refine aL aW (fun k:Nat=>{ s:=cE [(0,.ptr 1000000 0 0),(2,.d (.int .i64 most)),(4,.ptr 4 0 0),(6,.ptr 6 0 0),(7,.ptr 7 0 0),(8,.d (.sl (aD O))),(10,.d (.int .i64 o)),(11,.d (.int .i64 i)),(12,.ptr 12 0 0),(13,.d (.int .i64 n)),(17,.d (.int .i64 k))],b:=cC [(1000000,1000000,aQ L (b+1+k*zG x:Nat)),(4,4,.var [.d (.sl (S.map Tb.c))]),(6,6,.var [.nils]),(7,7,.var [.ref 901 0 S.length 1]),(901,901,.varr 43 1 (aO (LD T P i (.ref 905 0 k 1)) S.length)),(12,12,.var (x.c.map AV.d)),(905,905,.arr 48 1 ((mG L S x T (b+1) k).map gO) false)] })
   (fun k=>k≤n) (fun k=>n - k) 0 (by simp)
   ((jF 901 905 48 1 i (ety2:=43) (sz2:=1) (cells:=aO (JT T P) S.length) (by simp) hci (by simp) (by decide) (by decide)).trans (aI _ [(1000000,1000000,_),(4,4,_),(6,6,_),(7,7,_),(901,901,_),(12,12,_),(905,905,_)] ⟨by simp,by simp,by simp [aB,Blk.live,aQ,Tb.c,hset0,uA,dP,mG],bK⟩ (by simp [aB]))) ?_
  intro k hk
  have hRl:=sP L S x T (b+1) k
  have hcx:∀ hh,(aO (LD T P i (.ref 905 0 k 1)) S.length)[i]'hh=[.ref 905 0 k 1]:=fun hh=>by rw [xN hil]; unfold LD; rw [if_pos rfl]
  have hkw:k*zG x≤100*28:=Nat.mul_le_mul (by omega) (by unfold zG; omega)
  by_cases hkn:k<n
  ·have hkn':(k:Int)<n:=by omega
   have hwk:=wI (n:=(k:Int)+1)
   have hpk:=hpos k hkn
   have hrow:mG L S x T (b+1) (k+1)=mG L S x T (b+1) k++[JR L S x T (b+1+k*zG x) k]:=rfl
   have hnext:b+1+(k+1)*zG x=b+1+k*zG x+x.cols.length+x.fk.length:=by rw [Nat.add_mul,Nat.one_mul]; unfold zG; omega
   obtain ⟨e,he⟩:∃ e,e=b+1+k*zG x:=⟨_,rfl⟩
   have hee:e≤900000:=by omega
   rw [← he] at hrow hnext ⊢
   generalize hR:mG L S x T (b+1) k=R at *
   simp [aQ,hkn',Tb.c,show 32*(x.cols.length:Int)≤281474976710656 from by omega,(mk8 x.cols.length (by omega)).1]
   (repeat' first|contradiction|exact .ok|apply And.intro|intro _|(apply gc<;>simp+contextual))
   refine aL aW (fun c:Nat=>{ s:=cE [(0,.ptr 1000000 0 0),(2,.d (.int .i64 most)),(4,.ptr 4 0 0),(6,.ptr 6 0 0),(7,.ptr 7 0 0),(8,.d (.sl (aD O))),(10,.d (.int .i64 o)),(11,.d (.int .i64 i)),(12,.ptr 12 0 0),(13,.d (.int .i64 n)),(17,.d (.int .i64 k)),(18,.ref 903 0 x.cols.length 3),(19,.d (.int .i64 c))],b:=cC [(1000000,1000000,aQ L (e+c:Nat)),(4,4,.var [.d (.sl (S.map Tb.c))]),(6,6,.var [.nils]),(7,7,.var [.ref 901 0 S.length 1]),(901,901,.varr 43 1 (aO (LD T P i (.ref 905 0 k 1)) S.length)),(12,12,.var (x.c.map AV.d)),(905,905,.arr 48 1 (R.map gO) false),(903,903,.arr 92 3 ((FA L x e c).map V.c) false)] })
    (fun c=>c≤x.cols.length) (fun c=>x.cols.length - c) 0 (by simp)
    (aI _ [(1000000,1000000,_),(4,4,_),(6,6,_),(7,7,_),(901,901,_),(12,12,_),(905,905,_),(903,81,_)] ⟨by simp,by simp,by simp [aB,Blk.live,aQ,Tb.c,uA,dP,YL,nulV,V.c],bK⟩ (by simp [aB])) ?_
   intro c hc
   have hSl:=CV L x e c
   by_cases hcl:c<x.cols.length
   ·obtain ⟨u,hu⟩:∃ g,g=x.cols[c]:=⟨_,rfl⟩
    have hgu:∀ h,x.cols[c]'h=u:=fun _=>hu.symm
    have hum:u∈x.cols:=by rw [hu]; exact List.getElem_mem hcl
    have hwc:=wI (n:=(c:Int)+1)
    have hsm:=OW L (e+c) (by omega) u.t (htyx u hum) u.b
    have hcs:=YK (L:=L) (a:=e) hcl
    have hsc:smC L x e c=kG L (e+c) u.t u.b:=by unfold smC mX; rw [gE hcl,← hu]; rfl
    rw [hsc] at hcs
    generalize kG L (e+c) u.t u.b=v at *
    simp [aQ,hcl,hgu,Tb.c,Col.c]
    (repeat' first|contradiction|exact .ok|apply And.intro|intro _|(apply gc<;>simp+contextual))
    refine aH [1000000] hsm (by simp [aQ]) (by simp) ?_
    simp [aQ,hcl,hSl,V.a,V.c]
    (repeat' first|contradiction|exact .ok|apply And.intro|intro _|(apply gc<;>simp+contextual))
    refine ⟨c+1,by omega,?_,by simp; omega⟩
    simp only [hcs]
    refine aI _ [(1000000,1000000,_),(4,4,_),(6,6,_),(7,7,_),(901,901,_),(12,12,_),(905,905,_),(903,903,_)] ⟨by simp,by simp,by simp [aB,Blk.live,uA,dP,List.map_set,V.c]; try omega,bK⟩ (by simp [aB,hwc])
   obtain rfl:c=x.cols.length:=by omega
   obtain ⟨p,hp⟩:∃ p:Nat,eA x.pr=p:=⟨(eA x.pr).toNat,by omega⟩
   have hpl:p<x.cols.length:=by omega
   have hip:aD x.pr=[[.int .i64 p]]:=by
    obtain ⟨q,hq⟩:=jM hp1
    rw [hq] at hp ⊢
    have:q=p:=hp
    rw [this]; rfl
   have hrp:vU L x e k=(FA L x e x.cols.length).set p (jK (k+1)):=by unfold vU; rw [hp,Int.toNat_natCast]
   have hrpl:=CW L x e k
   simp [aQ,Tb.c,hip,hSl,hpl,hwk]
   (repeat' first|contradiction|exact .ok|apply And.intro|intro _|(apply gc<;>simp+contextual))
   refine aL aW (fun z:Nat=>{ s:=cE [(0,.ptr 1000000 0 0),(2,.d (.int .i64 most)),(4,.ptr 4 0 0),(6,.ptr 6 0 0),(7,.ptr 7 0 0),(8,.d (.sl (aD O))),(10,.d (.int .i64 o)),(11,.d (.int .i64 i)),(12,.ptr 12 0 0),(13,.d (.int .i64 n)),(17,.d (.int .i64 k)),(18,.ref 903 0 x.cols.length 3),(20,.d (.int .i64 z))],b:=cC [(1000000,1000000,aQ L (e+x.cols.length+z:Nat)),(4,4,.var [.d (.sl (S.map Tb.c))]),(6,6,.var [.nils]),(7,7,.var [.ref 901 0 S.length 1]),(901,901,.varr 43 1 (aO (LD T P i (.ref 905 0 k 1)) S.length)),(12,12,.var (x.c.map AV.d)),(905,905,.arr 48 1 (R.map gO) false),(903,903,.arr 92 3 ((LC L S x T (e+x.cols.length) z (vU L x e k)).map V.c) false)] })
    (fun z=>z≤x.fk.length) (fun z=>x.fk.length - z) 0 (by simp)
    (aI _ [(1000000,1000000,_),(4,4,_),(6,6,_),(7,7,_),(901,901,_),(12,12,_),(905,905,_),(903,903,_)] ⟨by simp,by simp,by simp [aB,Blk.live,aQ,Tb.c,uA,dP,LC,hrp,List.map_set,jK,V.c,hip],bK⟩ (by simp [aB])) ?_
   intro z hz
   have hFl:(LC L S x T (e+x.cols.length) z (vU L x e k)).length=x.cols.length:=by rw [vV,hrpl]
   by_cases hzl:z<x.fk.length
   ·obtain ⟨g,hg⟩:∃ g,g=x.fk[z]:=⟨_,rfl⟩
    have hgg:∀ h,x.fk[z]'h=g:=fun _=>hg.symm
    have hgm:g∈x.fk:=by rw [hg]; exact List.getElem_mem hzl
    have hwz:=wI (n:=(z:Int)+1)
    have hto:=hbef g hgm
    obtain ⟨ht0,ht1⟩:=hO.rng (tgt S g) (List.mem_of_mem_take (by rw [hP]; exact hto))
    obtain ⟨to,hte⟩:∃ t:Nat,tgt S g=t:=⟨(tgt S g).toNat,by omega⟩
    have htl:to<S.length:=by omega
    have htg:eR S g=to:=by unfold eR; rw [hte]; rfl
    rw [hte] at hto
    have hti:to ≠ i:=fun e0=>hiP (by rw [← e0]; exact hto)
    have hcell:∀ h,(aO (LD T P i (.ref 905 0 k 1)) S.length)[to]'h=[.d (.sl ((T to).map gO))]:=fun hh=>by rw [xN htl]; unfold LD gdC; rw [if_neg hti,if_pos hto]
    have hlen:=hpk g hgm
    rw [htg] at hlen
    obtain ⟨hg1,hg2,hg3⟩:=hfx g hgm
    obtain ⟨q,hq⟩:∃ q:Nat,eA g.cols=q:=⟨(eA g.cols).toNat,by omega⟩
    have hql:q<x.cols.length:=by omega
    have hig:aD g.cols=[[.int .i64 q]]:=by
     obtain ⟨r,hr⟩:=jM hg1
     rw [hr] at hq ⊢
     have:r=q:=hq
     rw [this]; rfl
    have hsuc:LC L S x T (e+x.cols.length) (z+1) (vU L x e k)=(LC L S x T (e+x.cols.length) z (vU L x e k)).set q (jK (1+aS L (e+x.cols.length+z) (T to).length)):=by
     rw [LC,gE hzl,← hg]
     simp only
     rw [hq,htg,Int.toNat_natCast]
    have hTto:=hTl to
    have htz:=dH L (e+x.cols.length+z) (by omega) ((T to).length:Int) (by omega) (by omega)
    obtain ⟨hv0,hv1⟩:=bB L (e+x.cols.length+z) (n:=((T to).length:Int)) (by omega)
    have hwv:=wI (n:=1+aS L (e+x.cols.length+z) ((T to).length:Int))
    generalize aS L (e+x.cols.length+z) ((T to).length:Int)=nv at *
    generalize hF:LC L S x T (e+x.cols.length) z (vU L x e k)=F at *
    simp [aQ,hzl,Tb.c]
    (repeat' first|contradiction|exact .ok|apply And.intro|intro _|(apply gc<;>simp+contextual))
    refine aA (gH S hl h.ok.ok hil hx.symm hzl hg.symm) (by simp [aN]) ?_
    rw [cN (show aV (fun y:Tb=>y.n==g.t) S 0=to from hte)]
    simp [hzl,hgg,Fk.c,hig,htl,hcell]
    (repeat' first|contradiction|exact .ok|apply And.intro|intro _|(apply gc<;>simp+contextual))
    refine aH [1000000] htz (by simp [aQ]) (by simp) ?_
    simp [aQ,hwv,hFl,hql]
    (repeat' first|contradiction|exact .ok|apply And.intro|intro _|(apply gc<;>simp+contextual))
    refine ⟨z+1,by omega,?_,by simp; omega⟩
    simp only [hsuc]
    exact aI _ [(1000000,1000000,_),(4,4,_),(6,6,_),(7,7,_),(901,901,_),(12,12,_),(905,905,_),(903,903,_)] ⟨by simp,by simp,by simp [aB,Blk.live,uA,dP,List.map_set,jK,V.c]; try omega,bK⟩ (by simp [aB,hwz])
   obtain rfl:z=x.fk.length:=by omega
   have hrg:JR L S x T e k=LC L S x T (e+x.cols.length) x.fk.length (vU L x e k):=rfl
   rw [hrg] at hrow
   generalize hF:LC L S x T (e+x.cols.length) x.fk.length (vU L x e k)=F at *
   have htF:(F.map V.c).take x.cols.length=F.map V.c:=List.take_of_length_le (by simp [hFl])
   have htR:(R.map gO).take k=R.map gO:=List.take_of_length_le (by simp [hRl])
   simp [aQ,Tb.c,hil,hcx,hFl,htF,hRl,gF (k+1) (by omega) 24 (by decide)]
   (repeat' first|contradiction|exact .ok|apply And.intro|intro _|(apply gc<;>simp+contextual))
   refine ⟨k+1,by omega,?_,by simp; omega⟩
   have hnI:(e:Int)+x.cols.length+x.fk.length=b+1+(k+1)*zG x:=by
    have:=congrArg (fun n:Nat=>(n:Int)) hnext
    push_cast at this
    exact this.symm
   simp only [hrow]
   exact aI _ [(1000000,1000000,_),(4,4,_),(6,6,_),(7,7,_),(901,901,_),(12,12,_),(905,158,_)] ⟨by simp,by simp,by simp [aB,Blk.live,VB,uA,dP,gO]; exact hnI,bK⟩ (by simp [aB,hwk])
  obtain rfl:k=n:=by omega
  have hkn':¬ (k:Int)<k:=by omega
  have htR:((mG L S x T (b+1) k).map gO).take k=(mG L S x T (b+1) k).map gO:=List.take_of_length_le (by simp [hRl])
  simp [aQ,Tb.c]
  (repeat' first|contradiction|exact .ok|apply And.intro|intro _|(apply gc<;>simp+contextual))
  refine ⟨o+1,by omega,?_,by simp; omega⟩
  simp only [hst,htk]
  refine aI _ [(1000000,1000000,_),(4,4,_),(6,6,_),(7,7,_),(901,901,_)] ⟨by simp,by simp,?_,bK⟩ (by simp [aB,hwo])
  have hR2:=hRl
  generalize mG L S x T (b+1) k=R at *
  have hdn:=aBd (T:=T) (R:=R) hiP
  simp [aB,Blk.live,uA,dP,EJ,hR2,htR,hdn]
  try omega
 obtain rfl:o=O.length:=by omega
 simp [aQ]
 (repeat' first|contradiction|exact .ok|apply And.intro|intro _|(apply gc<;>simp+contextual))
 refine AExitTo.mk rfl ?_
 have hdt:Sub En 161 1 { s:=cE [(6,.ptr 6 0 0),(7,.ptr 7 0 0)],b:=cC [(1000000,1000000,aQ L (Z O.length).2),(6,6,.var [.nils]),(7,7,.var [.ref 901 0 S.length 1]),(901,901,.varr 43 1 (aO (JT (Z O.length).1 O) S.length))] }
   { s:=cE [(6,.ptr 6 0 0),(7,.ptr 7 0 0)],b:=cC [(1000000,1000000,aQ L (Z O.length).2),(6,6,.var [.nils]),(7,7,.var [.ref 901 0 S.length 1]),(901,901,.arr 43 1 (aO (fun j=>[.sl (((Z O.length).1 j).map gO)]) S.length) false)] }:=by
  refine (zO 901 (ety:=43) (xs:=aO (JT (Z O.length).1 O) S.length) (aO (fun j=>[.sl (((Z O.length).1 j).map gO)]) S.length) (by simp) (by simp) ?_).trans (aI _ [(1000000,1000000,_),(6,6,_),(7,7,_),(901,901,_)] ⟨by simp,by simp,by simp [aB,Blk.live,aQ],bK⟩ (by simp [aB]))
  intro j x y hx hy
  rw [bE] at hx hy
  split at hx <;> simp only [Option.some.injEq,reduceCtorEq] at hx
  rename_i hj
  rw [if_pos hj,Option.some.injEq] at hy
  subst hx hy
  refine ⟨_,_,rfl,rfl,?_⟩
  unfold gdC
  split
  ·rfl
  ·rename_i hno
   rw [hout j hno]; rfl
 refine .trans ?_ hdt
 exact aI _ [(1000000,1000000,_),(6,6,_),(7,7,_),(901,901,_)] ⟨by simp,by simp,by simp [aB,Blk.live,aQ,JU],bK⟩ (by simp [aB])
end Go.Proofs.Tryz
