import Derived.Test.YthbnleoonldffaaGreatDoorQRwc
import Derived.Test.YthbnleoonldffaaGreatDoorAbB
set_option linter.all false
namespace Go.Proofs.Tryz
open Go.Ab
set_option maxRecDepth 100000
set_option maxHeartbeats 8000000
def VS (T:Nat→List (List V)) (P:List Int) (j:Nat):AV:=if (j:Int)∈P then .d (.sl ((T j).map cC)) else .nils
def HU (T:Nat→List (List V)) (P:List Int) (i:Nat) (q:AV) (j:Nat):List AV:=if j=i then [q] else [VS T P j]
def GR (T:Nat→List (List V)) (P:List Int) (j:Nat):List AV:=[VS T P j]
theorem XW {T:Nat→List (List V)} {P:List Int} {j:Nat} {r:Nat→Option Nat} {bl:Nat→Blk}:(dU r bl true (VS T P j)).1=VS T P j:=by
 unfold VS
 split <;> simp [dU]
theorem GS {T:Nat→List (List V)} {P:List Int} {N:Nat} {r:Nat→Option Nat} {bl:Nat→Blk}:(bE (GR T P) N).map (fun x=>(cQ r bl true x).1)=bE (GR T P) N:=by
 rw [eB]
 refine cJ fun j _=>?_
 simp [GR,cQ,XW]
theorem sH {T:Nat→List (List V)} {P:List Int} {i:Nat} {q:AV} {N:Nat} {r:Nat→Option Nat} {bl:Nat→Blk}:(bE (HU T P i q) N).map (fun x=>(cQ r bl true x).1)=bE (HU T P i (dU r bl true q).1) N:=by
 rw [eB]
 refine cJ fun j _=>?_
 unfold HU
 split
 ·simp [cQ]
 ·simp [cQ,XW]
theorem aBL {T:Nat→List (List V)} {P:List Int} {i:Nat} (h:(i:Int) ∉ P):HU T P i .nils=GR T P:=by
 funext j
 unfold HU GR
 split
 ·rename_i e
  subst e
  unfold VS
  rw [if_neg h]
 ·rfl
theorem XX {T:Nat→List (List V)} {P:List Int} {i:Nat} {R:List (List V)} (h:(i:Int) ∉ P):HU T P i (.d (.sl (R.map cC)))=GR (bM T i R) (P++[(i:Int)]):=by
 funext j
 unfold HU GR VS bM
 by_cases e:j=i
 ·subst e
  simp
 ·have:¬ (j:Int)=i:=by omega
  simp [e,this]
theorem QX {T:Nat→List (List V)} {P:List Int} {i N:Nat} {q q':AV}:(bE (HU T P i q) N).set i [q']=bE (HU T P i q') N:=by
 rw [nC]
 refine cJ fun j _=>?_
 unfold HU
 split <;> rfl
theorem XY {T:Nat→List (List V)} {N:Nat}:bE (GR T []) N=List.replicate N [.nils]:=by
 rw [nD]
 exact cJ fun j _=>by simp [GR,VS]
theorem OM {f:Nat→List AV} {N j:Nat} (h:j<N):∀ hh,(bE f N)[j]'hh=f j:=fun hh=>by
 have:=bR f N j
 rw [List.getElem?_eq_getElem hh,if_pos h] at this
 exact Option.some.inj this
theorem aDE (L:List Int) (S:List Tb) (h:oQ S) (most:Nat) (hm:most≤100) (a:Nat) (ha:a≤800000) :
  Cf En 18 [.ptr 1000000 0 0,aR S,.d (.int .i64 most)] [aS L a] (dK (AJ L S most a).1) [aS L (AJ L S most a).2]:=by
 refine aD aW (fn:=Tryz.f18) (by kernel_rfl) rfl (by kernel_rfl) (by decide) (by simp) ?_
 have hl:=h.ok.len
 have hfew:=h.few
 have hO:=RL S
 have hOl:=KT S
 have hfill:∀ o,(fQ L S most a o).2≤a+28010:=fun o=>by
  have:=AL (L:=L) h hm ((eX S).1.take o) (fun _=>[],a) fun z hz=>hO.rng z (List.mem_of_mem_take hz)
  have h2:((eX S).1.take o).length≤10:=by rw [List.length_take]; omega
  have h3:((eX S).1.take o).length*2801≤10*2801:=Nat.mul_le_mul_right _ h2
  unfold fQ
  omega
 obtain ⟨O,hOe⟩:∃ O,O=(eX S).1:=⟨_,rfl⟩
 have hor:=KV S hl h.ok.ok
 have hgood:AJ L S most a=(bE (fQ L S most a O.length).1 S.length,(fQ L S most a O.length).2):=by rw [hOe]; rfl
 rw [hgood]
 have hstep:∀ o i:Nat,∀ ho:o<O.length,O[o]=i→fQ L S most a (o+1)=mJ L S most i (fQ L S most a o):=fun o i ho hi=>by
  subst hOe
  exact OL ho hi
 have hz0:fQ L S most a 0=(fun _=>[],a):=rfl
 have hout:∀ j:Nat,(j:Int) ∉ O→(fQ L S most a O.length).1 j=[]:=fun j hj=>by
  unfold fQ
  rw [hOe] at hj
  exact DT _ _ (fun z hz=>(hO.rng z (List.mem_of_mem_take hz)).1) fun hm=>hj (List.mem_of_mem_take hm)
 have hrows:∀ o j:Nat,((fQ L S most a o).1 j).length≤most:=fun o j=>oR _ _ (fun _=>by simp) j
 rw [← hOe] at hO hOl hor
 clear hOe hgood
 generalize fQ L S most a=Z at *
 have hsz:(S.length:Int)*24≤281474976710656:=by omega
 have hsz2:=(mk8 S.length hl).1
 simp [aR,aS,hsz2,show 24*(S.length:Int)≤281474976710656 from by omega]
 (repeat' first|contradiction|exact .ok|apply And.intro|intro _|(apply gc<;>simp+contextual))
 refine aA hor (by simp [aR]) ?_
 simp
 (repeat' first|contradiction|exact .ok|apply And.intro|intro _|(apply gc<;>simp+contextual))
 refine FW aW (by decide) (fun o:Nat=>{ s:=cG [(0,.ptr 1000000 0 0),(2,.d (.int .i64 most)),(4,.ptr 4 0 0),(6,.ptr 6 0 0),(7,.ptr 7 0 0),(8,.d (.sl (aG O))),(10,.d (.int .i64 o))],b:=cE [(1000000,1000000,aS L (Z o).2),(4,4,.var [.d (.sl (S.map Tb.c))]),(6,6,.var [.nils]),(7,7,.var [.ref 901 0 S.length 1]),(901,901,.varr 27 1 (bE (GR (Z o).1 (O.take o)) S.length))] })
  (fun o=>o≤O.length) (fun o=>O.length - o) 0 (by simp) 0
  { s:=cG [(6,.ptr 6 0 0),(7,.ptr 7 0 0)],b:=cE [(1000000,1000000,aS L (Z O.length).2),(6,6,.var [.nils]),(7,7,.var [.ref 901 0 S.length 1]),(901,901,.arr 27 1 (bE (fun j=>[.sl (((Z O.length).1 j).map cC)]) S.length) false)] }
  ((pR 26 (m:=S.length) (ety:=27) (by simp [IB])).trans (aE _ [(1000000,1000000,_),(4,4,_),(6,6,_),(7,7,_),(901,26,_)] ⟨by simp,by simp,by simp [aB,Blk.live,aS,hz0,XY],bT⟩ (by simp [aB]))) ?_ ?_
 rotate_left
 ·have htk:∀ f:Nat→List D,(bE f S.length).take S.length=bE f S.length:=fun f=>List.take_of_length_le (by simp)
  simp [aS,htk,dK,eB,gM]
  (repeat' first|contradiction|exact .ok|apply And.intro|intro _|(apply gc<;>simp+contextual))
  all_goals (try simp [aS,htk,dK,eB,gM])
 intro o ho
 by_cases hol:o<O.length
 ·obtain ⟨hi0,hi1⟩:=hO.rng O[o] (List.getElem_mem hol)
  obtain ⟨i,hi⟩:∃ i:Nat,O[o]=i:=⟨O[o].toNat,by omega⟩
  have hil:i<S.length:=by omega
  obtain ⟨x,hx⟩:∃ x,x=S[i]:=⟨_,rfl⟩
  have hgx:∀ h,S[i]'h=x:=fun _=>hx.symm
  have hxm:x∈S:=by rw [hx]; exact List.getElem_mem hil
  have hgo:=dS hol
  rw [hi] at hgo
  have hgo2:∀ h,O[o]'h=(i:Int):=fun _=>hi
  have hfko:HW S i=x.fk:=by unfold HW; rw [List.getElem?_eq_getElem hil,← hx]
  have hbef:=hO.bef o hol
  rw [hi,Int.toNat_natCast,hfko] at hbef
  have hiP:(i:Int) ∉ O.take o:=fun hmem=>by
   obtain ⟨j,hj,e⟩:=List.mem_take_iff_getElem.1 hmem
   rw [← hi] at e
   exact List.pairwise_iff_getElem.1 hO.nd j o (by omega) hol (by omega) (by rw [e])
  have hst:=hstep o i hol hi
  have htab:aV S i=x:=by unfold aV; rw [List.getElem?_eq_getElem hil,← hx]; rfl
  have htk:O.take (o+1)=O.take o++[(i:Int)]:=by rw [bV hol,hi]
  have hb:=hfill o
  obtain ⟨T,b,hZ⟩:∃ T b,Z o=(T,b):=⟨_,_,rfl⟩
  have hTl:=hrows o
  rw [hZ] at hst hb hTl
  unfold mJ at hst
  rw [htab] at hst
  simp only [hZ] at hb hst hTl ⊢
  generalize hP:O.take o=P at *
  have hcols:=h.cols x hxm
  obtain ⟨hp1,hp2,hp3⟩:=h.pr x hxm
  obtain ⟨hf8,hfx⟩:=h.fk x hxm
  have htyx:=h.ty x hxm
  have hwo:=aH (n:=(o:Int)+1) (by omega) (by omega)
  have hw1:=aH (n:=(most:Int)+1) (by omega) (by omega)
  obtain ⟨hn1,hn2⟩:=AK L b (n:=(most:Int)+1) (by omega)
  have htn:=dM L b (by omega) ((most:Int)+1) (by omega) (by omega)
  rw [← hn1] at htn
  clear hstep hfill hn1 hrows
  generalize wW L b ((most:Int)+1)=n0 at *
  simp [aS,hol,hgo,hgo2,hil,hgx,Tb.c,hw1]
  (repeat' first|contradiction|exact .ok|apply And.intro|intro _|(apply gc<;>simp+contextual))
  refine aK [1000000] htn (by simp) (by simp) (by simp) (by simp [aS]) (by simp [hw1]) ?_
  simp [aS,Tb.c]
  (repeat' first|contradiction|exact .ok|apply And.intro|intro _|(apply gc<;>simp+contextual))
  refine aL aW (by decide) (fun f:Nat=>{ s:=cG [(0,.ptr 1000000 0 0),(2,.d (.int .i64 most)),(4,.ptr 4 0 0),(6,.ptr 6 0 0),(7,.ptr 7 0 0),(8,.d (.sl (aG O))),(10,.d (.int .i64 o)),(11,.d (.int .i64 i)),(12,.ptr 12 0 0),(13,.d (.int .i64 (vP S x T n0 f))),(14,.d (.int .i64 f))],b:=cE [(1000000,1000000,aS L (b+1)),(4,4,.var [.d (.sl (S.map Tb.c))]),(6,6,.var [.nils]),(7,7,.var [.ref 901 0 S.length 1]),(901,901,.varr 27 1 (bE (GR T P) S.length)),(12,12,.var (x.c.map AV.d))] })
   (fun f=>f≤x.fk.length) (fun f=>x.fk.length - f) 0 (by simp)
   (aE _ [(1000000,1000000,_),(4,4,_),(6,6,_),(7,7,_),(901,901,_),(12,12,_)] ⟨by simp,by simp,by simp [aB,Blk.live,aS,Tb.c,GS],bT⟩ (by simp [aB,vP])) ?_
  intro f hf
  by_cases hfl:f<x.fk.length
  ·obtain ⟨g,hg⟩:∃ g,g=x.fk[f]:=⟨_,rfl⟩
   have hgg:∀ h,x.fk[f]'h=g:=fun _=>hg.symm
   have hgm:g∈x.fk:=by rw [hg]; exact List.getElem_mem hfl
   have hwf:=aH (n:=(f:Int)+1) (by omega) (by omega)
   have hto:=hbef g hgm
   have hns:=UD (S:=S) (T:=T) (n:=n0) hfl
   rw [← hg] at hns
   obtain ⟨ht0,ht1⟩:=hO.rng (iB S g) (List.mem_of_mem_take (by rw [hP]; exact hto))
   obtain ⟨to,hte⟩:∃ t:Nat,iB S g=t:=⟨(iB S g).toNat,by omega⟩
   have htl:to<S.length:=by omega
   have htg:lG S g=to:=by unfold lG; rw [hte]; rfl
   rw [htg] at hns
   rw [hte] at hto
   have hcell:∀ h,(bE (GR T P) S.length)[to]'h=[.d (.sl ((T to).map cC))]:=fun hh=>by rw [OM htl]; unfold GR VS; rw [if_pos hto]
   simp [aS,hfl,Tb.c]
   (repeat' first|contradiction|exact .ok|apply And.intro|intro _|(apply gc<;>simp+contextual))
   refine aA (kU S hl h.ok.ok hil hx.symm hfl hg.symm) (by simp [aR]) ?_
   rw [cW (show aY (fun y:Tb=>y.n==g.t) S 0=to from hte)]
   by_cases h0:(T to).length=0
   ·rw [if_pos h0] at hns
    have h0i:((T to).length:Int)=0:=by omega
    simp [htl,hcell,h0,h0i]
    (repeat' first|contradiction|exact .ok|apply And.intro|intro _|(apply gc<;>simp+contextual[h0,h0i]))
    refine ⟨f+1,by omega,?_,by simp; omega⟩
    simp only [hns]
    exact aE _ [(1000000,1000000,_),(4,4,_),(6,6,_),(7,7,_),(901,901,_),(12,12,_)] ⟨by simp,by simp,by simp [aB,Blk.live,aS,Tb.c,GS],bT⟩ (by simp [aB,hwf])
   ·rw [if_neg h0] at hns
    have h0i:¬ ((T to).length:Int)=0:=by omega
    simp [htl,hcell,h0,h0i]
    (repeat' first|contradiction|exact .ok|apply And.intro|intro _|(apply gc<;>simp+contextual[h0,h0i]))
    refine ⟨f+1,by omega,?_,by simp; omega⟩
    simp only [hns]
    exact aE _ [(1000000,1000000,_),(4,4,_),(6,6,_),(7,7,_),(901,901,_),(12,12,_)] ⟨by simp,by simp,by simp [aB,Blk.live,aS,Tb.c,GS],bT⟩ (by simp [aB,hwf])
  obtain rfl:f=x.fk.length:=by omega
  have hpos:=fun k (hk:k<vP S x T n0 x.fk.length)=>KD hk
  have hnle:=GQ S x T n0 x.fk.length
  generalize vP S x T n0 x.fk.length=n at *
  simp [aS,Tb.c]
  (repeat' first|contradiction|exact .ok|apply And.intro|intro _|(apply gc<;>simp+contextual))
  have hci:(bE (GR T P) S.length)[i]?=some [.nils]:=by
   rw [bR,if_pos hil]
   unfold GR VS
   rw [if_neg hiP]
  have hset0:(bE (GR T P) S.length).set i [.ref 905 0 0 1]=bE (HU T P i (.ref 905 0 0 1)) S.length:=by rw [← aBL hiP,QX]
  refine aL aW (by decide) (fun k:Nat=>{ s:=cG [(0,.ptr 1000000 0 0),(2,.d (.int .i64 most)),(4,.ptr 4 0 0),(6,.ptr 6 0 0),(7,.ptr 7 0 0),(8,.d (.sl (aG O))),(10,.d (.int .i64 o)),(11,.d (.int .i64 i)),(12,.ptr 12 0 0),(13,.d (.int .i64 n)),(17,.d (.int .i64 k))],b:=cE [(1000000,1000000,aS L (b+1+k*xG x:Nat)),(4,4,.var [.d (.sl (S.map Tb.c))]),(6,6,.var [.nils]),(7,7,.var [.ref 901 0 S.length 1]),(901,901,.varr 27 1 (bE (HU T P i (.ref 905 0 k 1)) S.length)),(12,12,.var (x.c.map AV.d)),(905,905,.arr 118 1 ((lH L S x T (b+1) k).map cC) false)] })
   (fun k=>k≤n) (fun k=>n - k) 0 (by simp)
   ((kX 901 905 118 1 i (ety2:=27) (sz2:=1) (cells:=bE (GR T P) S.length) (by simp) hci (by simp) (by decide) (by decide)).trans (aE _ [(1000000,1000000,_),(4,4,_),(6,6,_),(7,7,_),(901,901,_),(12,12,_),(905,905,_)] ⟨by simp,by simp,by simp [aB,Blk.live,aS,Tb.c,hset0,sH,dU,lH],bT⟩ (by simp [aB]))) ?_
  intro k hk
  have hRl:=qW L S x T (b+1) k
  have hcx:∀ hh,(bE (HU T P i (.ref 905 0 k 1)) S.length)[i]'hh=[.ref 905 0 k 1]:=fun hh=>by rw [OM hil]; unfold HU; rw [if_pos rfl]
  have hkw:k*xG x≤100*28:=Nat.mul_le_mul (by omega) (by unfold xG; omega)
  by_cases hkn:k<n
  ·have hkn':(k:Int)<n:=by omega
   have hwk:=aH (n:=(k:Int)+1) (by omega) (by omega)
   have hpk:=hpos k hkn
   have hrow:lH L S x T (b+1) (k+1)=lH L S x T (b+1) k++[GP L S x T (b+1+k*xG x) k]:=rfl
   have hnext:b+1+(k+1)*xG x=b+1+k*xG x+x.cols.length+x.fk.length:=by rw [Nat.add_mul,Nat.one_mul]; unfold xG; omega
   obtain ⟨e,he⟩:∃ e,e=b+1+k*xG x:=⟨_,rfl⟩
   have hee:e≤900000:=by omega
   rw [← he] at hrow hnext ⊢
   generalize hR:lH L S x T (b+1) k=R at *
   simp [aS,hkn,hkn',Tb.c,show 32*(x.cols.length:Int)≤281474976710656 from by omega,(mk8 x.cols.length (by omega)).1]
   (repeat' first|contradiction|exact .ok|apply And.intro|intro _|(apply gc<;>simp+contextual))
   refine aL aW (by decide) (fun c:Nat=>{ s:=cG [(0,.ptr 1000000 0 0),(2,.d (.int .i64 most)),(4,.ptr 4 0 0),(6,.ptr 6 0 0),(7,.ptr 7 0 0),(8,.d (.sl (aG O))),(10,.d (.int .i64 o)),(11,.d (.int .i64 i)),(12,.ptr 12 0 0),(13,.d (.int .i64 n)),(17,.d (.int .i64 k)),(18,.ref 903 0 x.cols.length 3),(19,.d (.int .i64 c))],b:=cE [(1000000,1000000,aS L (e+c:Nat)),(4,4,.var [.d (.sl (S.map Tb.c))]),(6,6,.var [.nils]),(7,7,.var [.ref 901 0 S.length 1]),(901,901,.varr 27 1 (bE (HU T P i (.ref 905 0 k 1)) S.length)),(12,12,.var (x.c.map AV.d)),(905,905,.arr 118 1 (R.map cC) false),(903,903,.arr 111 3 ((CF L x e c).map V.c) false)] })
    (fun c=>c≤x.cols.length) (fun c=>x.cols.length - c) 0 (by simp)
    (aE _ [(1000000,1000000,_),(4,4,_),(6,6,_),(7,7,_),(901,901,_),(12,12,_),(905,905,_),(903,81,_)] ⟨by simp,by simp,by simp [aB,Blk.live,aS,Tb.c,sH,dU,UC,nulV,V.c],bT⟩ (by simp [aB])) ?_
   intro c hc
   have hSl:=AG L x e c
   by_cases hcl:c<x.cols.length
   ·obtain ⟨u,hu⟩:∃ g,g=x.cols[c]:=⟨_,rfl⟩
    have hgu:∀ h,x.cols[c]'h=u:=fun _=>hu.symm
    have hum:u∈x.cols:=by rw [hu]; exact List.getElem_mem hcl
    have hwc:=aH (n:=(c:Int)+1) (by omega) (by omega)
    have hsm:=aAp L (e+c) (by omega) u.t (htyx u hum) u.b
    have hcs:=UB (L:=L) (a:=e) hcl
    have hsc:smC L x e c=lR L (e+c) u.t u.b:=by unfold smC vO; rw [List.getElem?_eq_getElem hcl,← hu]; rfl
    rw [hsc] at hcs
    generalize lR L (e+c) u.t u.b=v at *
    simp [aS,hcl,hgu,Tb.c,Col.c,hSl]
    (repeat' first|contradiction|exact .ok|apply And.intro|intro _|(apply gc<;>simp+contextual))
    refine aK [1000000] hsm (by simp) (by simp) (by simp) (by simp [aS]) (by simp) ?_
    simp [aS,hcl,hSl,V.a,V.c]
    (repeat' first|contradiction|exact .ok|apply And.intro|intro _|(apply gc<;>simp+contextual))
    refine ⟨c+1,by omega,?_,by simp; omega⟩
    simp only [hcs]
    refine aE _ [(1000000,1000000,_),(4,4,_),(6,6,_),(7,7,_),(901,901,_),(12,12,_),(905,905,_),(903,903,_)] ⟨by simp,by simp,by simp [aB,Blk.live,aS,Tb.c,sH,dU,List.map_set,V.c]; try omega,bT⟩ (by simp [aB,hwc])
   obtain rfl:c=x.cols.length:=by omega
   obtain ⟨p,hp⟩:∃ p:Nat,fU x.pr=p:=⟨(fU x.pr).toNat,by omega⟩
   have hpl:p<x.cols.length:=by omega
   have hip:aG x.pr=[[.int .i64 p]]:=by
    obtain ⟨q,hq⟩:=kL hp1
    rw [hq] at hp ⊢
    have:q=p:=hp
    rw [this]; rfl
   have hrp:uC L x e k=(CF L x e x.cols.length).set p (kJ (k+1)):=by unfold uC; rw [hp,Int.toNat_natCast]
   have hrpl:=AH L x e k
   simp [aS,Tb.c,hip,hSl,hpl,hwk]
   (repeat' first|contradiction|exact .ok|apply And.intro|intro _|(apply gc<;>simp+contextual))
   refine aL aW (by decide) (fun z:Nat=>{ s:=cG [(0,.ptr 1000000 0 0),(2,.d (.int .i64 most)),(4,.ptr 4 0 0),(6,.ptr 6 0 0),(7,.ptr 7 0 0),(8,.d (.sl (aG O))),(10,.d (.int .i64 o)),(11,.d (.int .i64 i)),(12,.ptr 12 0 0),(13,.d (.int .i64 n)),(17,.d (.int .i64 k)),(18,.ref 903 0 x.cols.length 3),(20,.d (.int .i64 z))],b:=cE [(1000000,1000000,aS L (e+x.cols.length+z:Nat)),(4,4,.var [.d (.sl (S.map Tb.c))]),(6,6,.var [.nils]),(7,7,.var [.ref 901 0 S.length 1]),(901,901,.varr 27 1 (bE (HU T P i (.ref 905 0 k 1)) S.length)),(12,12,.var (x.c.map AV.d)),(905,905,.arr 118 1 (R.map cC) false),(903,903,.arr 111 3 ((HT L S x T (e+x.cols.length) z (uC L x e k)).map V.c) false)] })
    (fun z=>z≤x.fk.length) (fun z=>x.fk.length - z) 0 (by simp)
    (aE _ [(1000000,1000000,_),(4,4,_),(6,6,_),(7,7,_),(901,901,_),(12,12,_),(905,905,_),(903,903,_)] ⟨by simp,by simp,by simp [aB,Blk.live,aS,Tb.c,sH,dU,HT,hrp,List.map_set,kJ,V.c,hip],bT⟩ (by simp [aB])) ?_
   intro z hz
   have hFl:(HT L S x T (e+x.cols.length) z (uC L x e k)).length=x.cols.length:=by rw [uD,hrpl]
   by_cases hzl:z<x.fk.length
   ·obtain ⟨g,hg⟩:∃ g,g=x.fk[z]:=⟨_,rfl⟩
    have hgg:∀ h,x.fk[z]'h=g:=fun _=>hg.symm
    have hgm:g∈x.fk:=by rw [hg]; exact List.getElem_mem hzl
    have hwz:=aH (n:=(z:Int)+1) (by omega) (by omega)
    have hto:=hbef g hgm
    obtain ⟨ht0,ht1⟩:=hO.rng (iB S g) (List.mem_of_mem_take (by rw [hP]; exact hto))
    obtain ⟨to,hte⟩:∃ t:Nat,iB S g=t:=⟨(iB S g).toNat,by omega⟩
    have htl:to<S.length:=by omega
    have htg:lG S g=to:=by unfold lG; rw [hte]; rfl
    rw [hte] at hto
    have hti:to ≠ i:=fun e0=>hiP (by rw [← e0]; exact hto)
    have hcell:∀ h,(bE (HU T P i (.ref 905 0 k 1)) S.length)[to]'h=[.d (.sl ((T to).map cC))]:=fun hh=>by rw [OM htl]; unfold HU VS; rw [if_neg hti,if_pos hto]
    have hlen:=hpk g hgm
    rw [htg] at hlen
    obtain ⟨hg1,hg2,hg3⟩:=hfx g hgm
    obtain ⟨q,hq⟩:∃ q:Nat,fU g.cols=q:=⟨(fU g.cols).toNat,by omega⟩
    have hql:q<x.cols.length:=by omega
    have hig:aG g.cols=[[.int .i64 q]]:=by
     obtain ⟨r,hr⟩:=kL hg1
     rw [hr] at hq ⊢
     have:r=q:=hq
     rw [this]; rfl
    have hsuc:HT L S x T (e+x.cols.length) (z+1) (uC L x e k)=(HT L S x T (e+x.cols.length) z (uC L x e k)).set q (kJ (1+aU L (e+x.cols.length+z) (T to).length)):=by
     rw [HT,List.getElem?_eq_getElem hzl,← hg]
     simp only
     rw [hq,htg,Int.toNat_natCast]
    have hTto:=hTl to
    have htz:=dM L (e+x.cols.length+z) (by omega) ((T to).length:Int) (by omega) (by omega)
    obtain ⟨hv0,hv1⟩:=bG L (e+x.cols.length+z) (n:=((T to).length:Int)) (by omega)
    have hwv:=aH (n:=1+aU L (e+x.cols.length+z) ((T to).length:Int)) (by omega) (by omega)
    generalize aU L (e+x.cols.length+z) ((T to).length:Int)=nv at *
    generalize hF:HT L S x T (e+x.cols.length) z (uC L x e k)=F at *
    simp [aS,hzl,hgg,Tb.c,Fk.c]
    (repeat' first|contradiction|exact .ok|apply And.intro|intro _|(apply gc<;>simp+contextual))
    refine aA (kU S hl h.ok.ok hil hx.symm hzl hg.symm) (by simp [aR]) ?_
    rw [cW (show aY (fun y:Tb=>y.n==g.t) S 0=to from hte)]
    simp [aS,hzl,hgg,Tb.c,Fk.c,hig,htl,hcell,hFl,hql]
    (repeat' first|contradiction|exact .ok|apply And.intro|intro _|(apply gc<;>simp+contextual))
    refine aK [1000000] htz (by simp) (by simp) (by simp) (by simp [aS]) (by simp) ?_
    simp [aS,hwv,hFl,hql]
    (repeat' first|contradiction|exact .ok|apply And.intro|intro _|(apply gc<;>simp+contextual))
    refine ⟨z+1,by omega,?_,by simp; omega⟩
    simp only [hsuc]
    exact aE _ [(1000000,1000000,_),(4,4,_),(6,6,_),(7,7,_),(901,901,_),(12,12,_),(905,905,_),(903,903,_)] ⟨by simp,by simp,by simp [aB,Blk.live,aS,Tb.c,sH,dU,List.map_set,kJ,V.c]; try omega,bT⟩ (by simp [aB,hwz])
   obtain rfl:z=x.fk.length:=by omega
   have hrg:GP L S x T e k=HT L S x T (e+x.cols.length) x.fk.length (uC L x e k):=rfl
   rw [hrg] at hrow
   generalize hF:HT L S x T (e+x.cols.length) x.fk.length (uC L x e k)=F at *
   have htF:(F.map V.c).take x.cols.length=F.map V.c:=List.take_of_length_le (by simp [hFl])
   have htR:(R.map cC).take k=R.map cC:=List.take_of_length_le (by simp [hRl])
   simp [aS,Tb.c,hil,hcx,hFl,htF,hRl,htR,eI k (by omega) 24 (by decide),eI (k+1) (by omega) 24 (by decide)]
   (repeat' first|contradiction|exact .ok|apply And.intro|intro _|(apply gc<;>simp+contextual))
   refine ⟨k+1,by omega,?_,by simp; omega⟩
   have hnI:(e:Int)+x.cols.length+x.fk.length=b+1+(k+1)*xG x:=by
    have:=congrArg (fun n:Nat=>(n:Int)) hnext
    push_cast at this
    exact this.symm
   simp only [hrow]
   exact aE _ [(1000000,1000000,_),(4,4,_),(6,6,_),(7,7,_),(901,901,_),(12,12,_),(905,158,_)] ⟨by simp,by simp,by simp [aB,Blk.live,aS,Tb.c,QX,sH,dU,cC]; exact hnI,bT⟩ (by simp [aB,hwk])
  obtain rfl:k=n:=by omega
  have hkn':¬ (k:Int)<k:=by omega
  have htR:((lH L S x T (b+1) k).map cC).take k=(lH L S x T (b+1) k).map cC:=List.take_of_length_le (by simp [hRl])
  simp [aS,Tb.c]
  (repeat' first|contradiction|exact .ok|apply And.intro|intro _|(apply gc<;>simp+contextual))
  refine ⟨o+1,by omega,?_,by simp; omega⟩
  simp only [hst,htk,hP]
  refine aE _ [(1000000,1000000,_),(4,4,_),(6,6,_),(7,7,_),(901,901,_)] ⟨by simp,by simp,?_,bT⟩ (by simp [aB,hwo])
  have hR2:=hRl
  generalize lH L S x T (b+1) k=R at *
  have hdn:=XX (T:=T) (R:=R) hiP
  simp [aB,Blk.live,aS,sH,dU,CP,hR2,htR,hdn]
  try omega
 obtain rfl:o=O.length:=by omega
 simp [aS]
 (repeat' first|contradiction|exact .ok|apply And.intro|intro _|(apply gc<;>simp+contextual))
 refine AExitTo.mk rfl ?_
 have hdt:Sub En 161 1 { s:=cG [(6,.ptr 6 0 0),(7,.ptr 7 0 0)],b:=cE [(1000000,1000000,aS L (Z O.length).2),(6,6,.var [.nils]),(7,7,.var [.ref 901 0 S.length 1]),(901,901,.varr 27 1 (bE (GR (Z O.length).1 O) S.length))] }
   { s:=cG [(6,.ptr 6 0 0),(7,.ptr 7 0 0)],b:=cE [(1000000,1000000,aS L (Z O.length).2),(6,6,.var [.nils]),(7,7,.var [.ref 901 0 S.length 1]),(901,901,.arr 27 1 (bE (fun j=>[.sl (((Z O.length).1 j).map cC)]) S.length) false)] }:=by
  refine (QG 901 (ety:=27) (xs:=bE (GR (Z O.length).1 O) S.length) (bE (fun j=>[.sl (((Z O.length).1 j).map cC)]) S.length) (by simp) (by simp) ?_).trans (aE _ [(1000000,1000000,_),(6,6,_),(7,7,_),(901,901,_)] ⟨by simp,by simp,by simp [aB,Blk.live,aS],bT⟩ (by simp [aB]))
  intro j x y hx hy
  rw [bR] at hx hy
  split at hx <;> simp only [Option.some.injEq,reduceCtorEq] at hx
  rename_i hj
  rw [if_pos hj,Option.some.injEq] at hy
  subst hx hy
  refine ⟨_,_,rfl,rfl,?_⟩
  unfold VS
  split
  ·rfl
  ·rename_i hno
   rw [hout j hno]; rfl
 refine .trans ?_ hdt
 exact aE _ [(1000000,1000000,_),(6,6,_),(7,7,_),(901,901,_)] ⟨by simp,by simp,by simp [aB,Blk.live,aS,GS],bT⟩ (by simp [aB])
end Go.Proofs.Tryz
