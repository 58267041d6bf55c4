import Derived.Test.YtklnfckiabhceaaGreatDoorKFil
import Derived.Test.YtklnfckiabhceaaGreatDoorAbB
set_option linter.all false
namespace Go.Proofs.Tryz
open Go.Ab
set_option maxRecDepth 100000
set_option maxHeartbeats 8000000
def gdC (T:Nat→List (List V)) (P:List Int) (j:Nat):AV:=if (j:Int)∈P then .d (.sl ((T j).map rowD)) else .nils
def gdR (T:Nat→List (List V)) (P:List Int) (i:Nat) (q:AV) (j:Nat):List AV:=if j=i then [q] else [gdC T P j]
def gdQ (T:Nat→List (List V)) (P:List Int) (j:Nat):List AV:=[gdC T P j]
theorem cv_gdC {T:Nat→List (List V)} {P:List Int} {j:Nat} {r:Nat→Option Nat} {bl:Nat→Blk}:(cvA r bl true (gdC T P j)).1=gdC T P j:=by
 unfold gdC
 split <;> simp [cvA]
theorem cv_gdQ {T:Nat→List (List V)} {P:List Int} {N:Nat} {r:Nat→Option Nat} {bl:Nat→Blk}:(seqF (gdQ T P) N).map (fun x=>(cvAs r bl true x).1)=seqF (gdQ T P) N:=by
 rw [seqF_map]
 refine seqF_congr fun j _=>?_
 simp [gdQ,cvAs,cv_gdC]
theorem cv_gdR {T:Nat→List (List V)} {P:List Int} {i:Nat} {q:AV} {N:Nat} {r:Nat→Option Nat} {bl:Nat→Blk}:(seqF (gdR T P i q) N).map (fun x=>(cvAs r bl true x).1)=seqF (gdR T P i (cvA r bl true q).1) N:=by
 rw [seqF_map]
 refine seqF_congr fun j _=>?_
 unfold gdR
 split
 ·simp [cvAs]
 ·simp [cvAs,cv_gdC]
theorem gdR_nil {T:Nat→List (List V)} {P:List Int} {i:Nat} (h:(i:Int) ∉ P):gdR T P i .nils=gdQ T P:=by
 funext j
 unfold gdR gdQ
 split
 ·rename_i e
  subst e
  unfold gdC
  rw [if_neg h]
 ·rfl
theorem gdR_done {T:Nat→List (List V)} {P:List Int} {i:Nat} {R:List (List V)} (h:(i:Int) ∉ P):gdR T P i (.d (.sl (R.map rowD)))=gdQ (upd T i R) (P++[(i:Int)]):=by
 funext j
 unfold gdR gdQ gdC upd
 by_cases e:j=i
 ·subst e
  simp
 ·have:¬ (j:Int)=i:=by omega
  simp [e,this]
theorem gdR_set {T:Nat→List (List V)} {P:List Int} {i N:Nat} {q q':AV}:(seqF (gdR T P i q) N).set i [q']=seqF (gdR T P i q') N:=by
 rw [seqF_set]
 refine seqF_congr fun j _=>?_
 unfold gdR
 split <;> rfl
theorem gdQ_zero {T:Nat→List (List V)} {N:Nat}:seqF (gdQ T []) N=List.replicate N [.nils]:=by
 rw [seqF_rep]
 exact seqF_congr fun j _=>by simp [gdQ,gdC]
theorem gd_get {f:Nat→List AV} {N j:Nat} (h:j<N):∀ hh,(seqF f N)[j]'hh=f j:=fun hh=>by
 have:=seqF_get f N j
 rw [List.getElem?_eq_getElem hh,if_pos h] at this
 exact Option.some.inj this
theorem t_good (L:List Int) (S:List Tb) (h:FillOk S) (most:Nat) (hm:most≤100) (a:Nat) (ha:a≤800000) :
  Cf En 16 [.ptr 1000000 0 0,schA S,.d (.int .i64 most)] [tapB L a] (instA (goodG L S most a).1) [tapB L (goodG L S most a).2]:=by
 refine cf_intro mix (fn:=Tryz.f16) (by kernel_rfl) rfl (by kernel_rfl) (by decide) (by simp) ?_
 have hl:=h.ok.len
 have hfew:=h.few
 have hO:=ordS_ok S
 have hOl:=ordS_len S
 have hfill:∀ o,(fillT L S most a o).2≤a+28010:=fun o=>by
  have:=fillG_le (L:=L) h hm ((ordS S).1.take o) (fun _=>[],a) fun z hz=>hO.rng z (List.mem_of_mem_take hz)
  have h2:((ordS S).1.take o).length≤10:=by rw [List.length_take]; omega
  have h3:((ordS S).1.take o).length*2801≤10*2801:=Nat.mul_le_mul_right _ h2
  unfold fillT
  omega
 obtain ⟨O,hOe⟩:∃ O,O=(ordS S).1:=⟨_,rfl⟩
 have hor:=r3_order S hl h.ok.ok
 have hgood:goodG L S most a=(seqF (fillT L S most a O.length).1 S.length,(fillT L S most a O.length).2):=by rw [hOe]; rfl
 rw [hgood]
 have hstep:∀ o i:Nat,∀ ho:o<O.length,O[o]=i→fillT L S most a (o+1)=stepG L S most i (fillT L S most a o):=fun o i ho hi=>by
  subst hOe
  exact fillT_succ ho hi
 have hz0:fillT L S most a 0=(fun _=>[],a):=rfl
 have hout:∀ j:Nat,(j:Int) ∉ O→(fillT L S most a O.length).1 j=[]:=fun j hj=>by
  unfold fillT
  rw [hOe] at hj
  exact fillG_out _ _ (fun z hz=>(hO.rng z (List.mem_of_mem_take hz)).1) fun hm=>hj (List.mem_of_mem_take hm)
 have hrows:∀ o j:Nat,((fillT L S most a o).1 j).length≤most:=fun o j=>fillG_rows _ _ (fun _=>by simp) j
 rw [← hOe] at hO hOl hor
 clear hOe hgood
 generalize fillT L S most a=Z at *
 have hsz:(S.length:Int)*24≤281474976710656:=by omega
 have hsz2:=(mk8 S.length hl).1
 simp [schA,tapB,hsz2,show 24*(S.length:Int)≤281474976710656 from by omega]
 (repeat' (first|contradiction|exact .ok|apply And.intro|intro _|(refine gc (fun h=>?_) (fun h=>?_)<;>(have h':=h;(try simp at h');first|done|simp[h,h']|simp))))
 refine acallT_plain hor (by simp [schA]) ?_
 simp
 (repeat' (first|contradiction|exact .ok|apply And.intro|intro _|(refine gc (fun h=>?_) (fun h=>?_)<;>(have h':=h;(try simp at h');first|done|simp[h,h']|simp))))
 refine aloopC mix (by decide) (fun o:Nat=>{ s:=mkS [(0,.ptr 1000000 0 0),(2,.d (.int .i64 most)),(4,.ptr 4 0 0),(6,.ptr 6 0 0),(7,.ptr 7 0 0),(8,.d (.sl (ints O))),(10,.d (.int .i64 o))],b:=mkB [(1000000,1000000,tapB L (Z o).2),(4,4,.var [.d (.sl (S.map Tb.c))]),(6,6,.var [.nils]),(7,7,.var [.ref 901 0 S.length 1]),(901,901,.varr 49 1 (seqF (gdQ (Z o).1 (O.take o)) S.length))] })
  (fun o=>o≤O.length) (fun o=>O.length - o) 0 (by simp) 0
  { s:=mkS [(6,.ptr 6 0 0),(7,.ptr 7 0 0)],b:=mkB [(1000000,1000000,tapB L (Z O.length).2),(6,6,.var [.nils]),(7,7,.var [.ref 901 0 S.length 1]),(901,901,.arr 49 1 (seqF (fun j=>[.sl (((Z O.length).1 j).map rowD)]) S.length) false)] }
  ((sub_nils 26 (m:=S.length) (ety:=49) (by simp [nilD])).trans (sub_mk _ [(1000000,1000000,_),(4,4,_),(6,6,_),(7,7,_),(901,26,_)] ⟨by simp,by simp,by simp [renOf,Blk.live,tapB,hz0,gdQ_zero],base1⟩ (by simp [renOf]))) ?_ ?_
 rotate_left
 ·have htk:∀ f:Nat→List D,(seqF f S.length).take S.length=seqF f S.length:=fun f=>List.take_of_length_le (by simp)
  simp [tapB,htk,instA,seqF_map,tabD]
  (repeat' (first|contradiction|exact .ok|apply And.intro|intro _|(refine gc (fun h=>?_) (fun h=>?_)<;>(have h':=h;(try simp at h');first|done|simp[h,h']|simp))))
  all_goals (try simp [tapB,htk,instA,seqF_map,tabD])
 intro o ho
 by_cases hol:o<O.length
 ·obtain ⟨hi0,hi1⟩:=hO.rng O[o] (List.getElem_mem hol)
  obtain ⟨i,hi⟩:∃ i:Nat,O[o]=i:=⟨O[o].toNat,by omega⟩
  have hil:i<S.length:=by omega
  obtain ⟨x,hx⟩:∃ x,x=S[i]:=⟨_,rfl⟩
  have hgx:∀ h,S[i]'h=x:=fun _=>hx.symm
  have hxm:x∈S:=by rw [hx]; exact List.getElem_mem hil
  have hgo:=ints_get hol
  rw [hi] at hgo
  have hgo2:∀ h,O[o]'h=(i:Int):=fun _=>hi
  have hfko:fkO S i=x.fk:=by unfold fkO; rw [List.getElem?_eq_getElem hil,← hx]
  have hbef:=hO.bef o hol
  rw [hi,Int.toNat_natCast,hfko] at hbef
  have hiP:(i:Int) ∉ O.take o:=fun hmem=>by
   obtain ⟨j,hj,e⟩:=List.mem_take_iff_getElem.1 hmem
   rw [← hi] at e
   exact List.pairwise_iff_getElem.1 hO.nd j o (by omega) hol (by omega) (by rw [e])
  have hst:=hstep o i hol hi
  have htab:tabO S i=x:=by unfold tabO; rw [List.getElem?_eq_getElem hil,← hx]; rfl
  have htk:O.take (o+1)=O.take o++[(i:Int)]:=by rw [take_snoc hol,hi]
  have hb:=hfill o
  obtain ⟨T,b,hZ⟩:∃ T b,Z o=(T,b):=⟨_,_,rfl⟩
  have hTl:=hrows o
  rw [hZ] at hst hb hTl
  unfold stepG at hst
  rw [htab] at hst
  simp only [hZ] at hb hst hTl ⊢
  generalize hP:O.take o=P at *
  have hcols:=h.cols x hxm
  obtain ⟨hp1,hp2,hp3⟩:=h.pr x hxm
  obtain ⟨hf8,hfx⟩:=h.fk x hxm
  have htyx:=h.ty x hxm
  have hwo:=wrap_in (n:=(o:Int)+1) (by omega) (by omega)
  have hw1:=wrap_in (n:=(most:Int)+1) (by omega) (by omega)
  obtain ⟨hn1,hn2⟩:=nextN_in L b (n:=(most:Int)+1) (by omega)
  have htn:=t_next1 L b (by omega) ((most:Int)+1) (by omega) (by omega)
  rw [← hn1] at htn
  clear hstep hfill hn1 hrows
  generalize nextN L b ((most:Int)+1)=n0 at *
  simp [tapB,hol,hgo,hgo2,hil,hgx,Tb.c,hw1]
  (repeat' (first|contradiction|exact .ok|apply And.intro|intro _|(refine gc (fun h=>?_) (fun h=>?_)<;>(have h':=h;(try simp at h');first|done|simp[h,h']|simp))))
  refine acallT_hand [1000000] htn (by simp) (by simp) (by simp) (by simp [tapB]) (by simp [hw1]) ?_
  simp [tapB,Tb.c]
  (repeat' (first|contradiction|exact .ok|apply And.intro|intro _|(refine gc (fun h=>?_) (fun h=>?_)<;>(have h':=h;(try simp at h');first|done|simp[h,h']|simp))))
  refine aloopT mix (by decide) (fun f:Nat=>{ s:=mkS [(0,.ptr 1000000 0 0),(2,.d (.int .i64 most)),(4,.ptr 4 0 0),(6,.ptr 6 0 0),(7,.ptr 7 0 0),(8,.d (.sl (ints O))),(10,.d (.int .i64 o)),(11,.d (.int .i64 i)),(12,.ptr 12 0 0),(13,.d (.int .i64 (numR S x T n0 f))),(14,.d (.int .i64 f))],b:=mkB [(1000000,1000000,tapB L (b+1)),(4,4,.var [.d (.sl (S.map Tb.c))]),(6,6,.var [.nils]),(7,7,.var [.ref 901 0 S.length 1]),(901,901,.varr 49 1 (seqF (gdQ T P) S.length)),(12,12,.var (x.c.map AV.d))] })
   (fun f=>f≤x.fk.length) (fun f=>x.fk.length - f) 0 (by simp)
   (sub_mk _ [(1000000,1000000,_),(4,4,_),(6,6,_),(7,7,_),(901,901,_),(12,12,_)] ⟨by simp,by simp,by simp [renOf,Blk.live,tapB,Tb.c,cv_gdQ],base1⟩ (by simp [renOf,numR])) ?_
  intro f hf
  by_cases hfl:f<x.fk.length
  ·obtain ⟨g,hg⟩:∃ g,g=x.fk[f]:=⟨_,rfl⟩
   have hgg:∀ h,x.fk[f]'h=g:=fun _=>hg.symm
   have hgm:g∈x.fk:=by rw [hg]; exact List.getElem_mem hfl
   have hwf:=wrap_in (n:=(f:Int)+1) (by omega) (by omega)
   have hto:=hbef g hgm
   have hns:=numR_succ (S:=S) (T:=T) (n:=n0) hfl
   rw [← hg] at hns
   obtain ⟨ht0,ht1⟩:=hO.rng (tgt S g) (List.mem_of_mem_take (by rw [hP]; exact hto))
   obtain ⟨to,hte⟩:∃ t:Nat,tgt S g=t:=⟨(tgt S g).toNat,by omega⟩
   have htl:to<S.length:=by omega
   have htg:tgN S g=to:=by unfold tgN; rw [hte]; rfl
   rw [htg] at hns
   rw [hte] at hto
   have hcell:∀ h,(seqF (gdQ T P) S.length)[to]'h=[.d (.sl ((T to).map rowD))]:=fun hh=>by rw [gd_get htl]; unfold gdQ gdC; rw [if_pos hto]
   simp [tapB,hfl,Tb.c]
   (repeat' (first|contradiction|exact .ok|apply And.intro|intro _|(refine gc (fun h=>?_) (fun h=>?_)<;>(have h':=h;(try simp at h');first|done|simp[h,h']|simp))))
   refine acallT_plain (r3_target S hl h.ok.ok hil hx.symm hfl hg.symm) (by simp [schA]) ?_
   rw [place_at (show fidx (fun y:Tb=>y.n==g.t) S 0=to from hte)]
   by_cases h0:(T to).length=0
   ·rw [if_pos h0] at hns
    have h0i:((T to).length:Int)=0:=by omega
    simp [htl,hcell,h0,h0i]
    (repeat' (first|contradiction|exact .ok|apply And.intro|intro _|(refine gc (fun h=>?_) (fun h=>?_)<;>(have h':=h;(try simp at h');first|done|simp[h,h',h0,h0i]|simp[h0,h0i]))))
    refine ⟨f+1,by omega,?_,by simp; omega⟩
    simp only [hns]
    exact sub_mk _ [(1000000,1000000,_),(4,4,_),(6,6,_),(7,7,_),(901,901,_),(12,12,_)] ⟨by simp,by simp,by simp [renOf,Blk.live,tapB,Tb.c,cv_gdQ],base1⟩ (by simp [renOf,hwf])
   ·rw [if_neg h0] at hns
    have h0i:¬ ((T to).length:Int)=0:=by omega
    simp [htl,hcell,h0,h0i]
    (repeat' (first|contradiction|exact .ok|apply And.intro|intro _|(refine gc (fun h=>?_) (fun h=>?_)<;>(have h':=h;(try simp at h');first|done|simp[h,h',h0,h0i]|simp[h0,h0i]))))
    refine ⟨f+1,by omega,?_,by simp; omega⟩
    simp only [hns]
    exact sub_mk _ [(1000000,1000000,_),(4,4,_),(6,6,_),(7,7,_),(901,901,_),(12,12,_)] ⟨by simp,by simp,by simp [renOf,Blk.live,tapB,Tb.c,cv_gdQ],base1⟩ (by simp [renOf,hwf])
  obtain rfl:f=x.fk.length:=by omega
  have hpos:=fun k (hk:k<numR S x T n0 x.fk.length)=>numR_pos hk
  have hnle:=numR_le S x T n0 x.fk.length
  generalize numR S x T n0 x.fk.length=n at *
  simp [tapB,Tb.c]
  (repeat' (first|contradiction|exact .ok|apply And.intro|intro _|(refine gc (fun h=>?_) (fun h=>?_)<;>(have h':=h;(try simp at h');first|done|simp[h,h']|simp))))
  have hci:(seqF (gdQ T P) S.length)[i]?=some [.nils]:=by
   rw [seqF_get,if_pos hil]
   unfold gdQ gdC
   rw [if_neg hiP]
  have hset0:(seqF (gdQ T P) S.length).set i [.ref 905 0 0 1]=seqF (gdR T P i (.ref 905 0 0 1)) S.length:=by rw [← gdR_nil hiP,gdR_set]
  refine aloopT mix (by decide) (fun k:Nat=>{ s:=mkS [(0,.ptr 1000000 0 0),(2,.d (.int .i64 most)),(4,.ptr 4 0 0),(6,.ptr 6 0 0),(7,.ptr 7 0 0),(8,.d (.sl (ints O))),(10,.d (.int .i64 o)),(11,.d (.int .i64 i)),(12,.ptr 12 0 0),(13,.d (.int .i64 n)),(17,.d (.int .i64 k))],b:=mkB [(1000000,1000000,tapB L (b+1+k*rowW x:Nat)),(4,4,.var [.d (.sl (S.map Tb.c))]),(6,6,.var [.nils]),(7,7,.var [.ref 901 0 S.length 1]),(901,901,.varr 49 1 (seqF (gdR T P i (.ref 905 0 k 1)) S.length)),(12,12,.var (x.c.map AV.d)),(905,905,.arr 71 1 ((rowsG L S x T (b+1) k).map rowD) false)] })
   (fun k=>k≤n) (fun k=>n - k) 0 (by simp)
   ((sub_nilv 901 905 71 1 i (ety2:=49) (sz2:=1) (cells:=seqF (gdQ T P) S.length) (by simp) hci (by simp) (by decide) (by decide)).trans (sub_mk _ [(1000000,1000000,_),(4,4,_),(6,6,_),(7,7,_),(901,901,_),(12,12,_),(905,905,_)] ⟨by simp,by simp,by simp [renOf,Blk.live,tapB,Tb.c,hset0,cv_gdR,cvA,rowsG],base1⟩ (by simp [renOf]))) ?_
  intro k hk
  have hRl:=rowsG_len L S x T (b+1) k
  have hcx:∀ hh,(seqF (gdR T P i (.ref 905 0 k 1)) S.length)[i]'hh=[.ref 905 0 k 1]:=fun hh=>by rw [gd_get hil]; unfold gdR; rw [if_pos rfl]
  have hkw:k*rowW x≤100*28:=Nat.mul_le_mul (by omega) (by unfold rowW; omega)
  by_cases hkn:k<n
  ·have hkn':(k:Int)<n:=by omega
   have hwk:=wrap_in (n:=(k:Int)+1) (by omega) (by omega)
   have hpk:=hpos k hkn
   have hrow:rowsG L S x T (b+1) (k+1)=rowsG L S x T (b+1) k++[rowG L S x T (b+1+k*rowW x) k]:=rfl
   have hnext:b+1+(k+1)*rowW x=b+1+k*rowW x+x.cols.length+x.fk.length:=by rw [Nat.add_mul,Nat.one_mul]; unfold rowW; omega
   obtain ⟨e,he⟩:∃ e,e=b+1+k*rowW x:=⟨_,rfl⟩
   have hee:e≤900000:=by omega
   rw [← he] at hrow hnext ⊢
   generalize hR:rowsG L S x T (b+1) k=R at *
   simp [tapB,hkn,hkn',Tb.c,show 32*(x.cols.length:Int)≤281474976710656 from by omega,(mk8 x.cols.length (by omega)).1]
   (repeat' (first|contradiction|exact .ok|apply And.intro|intro _|(refine gc (fun h=>?_) (fun h=>?_)<;>(have h':=h;(try simp at h');first|done|simp[h,h']|simp))))
   refine aloopT mix (by decide) (fun c:Nat=>{ s:=mkS [(0,.ptr 1000000 0 0),(2,.d (.int .i64 most)),(4,.ptr 4 0 0),(6,.ptr 6 0 0),(7,.ptr 7 0 0),(8,.d (.sl (ints O))),(10,.d (.int .i64 o)),(11,.d (.int .i64 i)),(12,.ptr 12 0 0),(13,.d (.int .i64 n)),(17,.d (.int .i64 k)),(18,.ref 903 0 x.cols.length 3),(19,.d (.int .i64 c))],b:=mkB [(1000000,1000000,tapB L (e+c:Nat)),(4,4,.var [.d (.sl (S.map Tb.c))]),(6,6,.var [.nils]),(7,7,.var [.ref 901 0 S.length 1]),(901,901,.varr 49 1 (seqF (gdR T P i (.ref 905 0 k 1)) S.length)),(12,12,.var (x.c.map AV.d)),(905,905,.arr 71 1 (R.map rowD) false),(903,903,.arr 79 3 ((rowS L x e c).map V.c) false)] })
    (fun c=>c≤x.cols.length) (fun c=>x.cols.length - c) 0 (by simp)
    (sub_mk _ [(1000000,1000000,_),(4,4,_),(6,6,_),(7,7,_),(901,901,_),(12,12,_),(905,905,_),(903,81,_)] ⟨by simp,by simp,by simp [renOf,Blk.live,tapB,Tb.c,cv_gdR,cvA,rowS_zero,nulV,V.c],base1⟩ (by simp [renOf])) ?_
   intro c hc
   have hSl:=rowS_len L x e c
   by_cases hcl:c<x.cols.length
   ·obtain ⟨u,hu⟩:∃ g,g=x.cols[c]:=⟨_,rfl⟩
    have hgu:∀ h,x.cols[c]'h=u:=fun _=>hu.symm
    have hum:u∈x.cols:=by rw [hu]; exact List.getElem_mem hcl
    have hwc:=wrap_in (n:=(c:Int)+1) (by omega) (by omega)
    have hsm:=t_smallB L (e+c) (by omega) u.t (htyx u hum) u.b
    have hcs:=rowS_succ (L:=L) (a:=e) hcl
    have hsc:smC L x e c=smallB L (e+c) u.t u.b:=by unfold smC colO; rw [List.getElem?_eq_getElem hcl,← hu]; rfl
    rw [hsc] at hcs
    generalize smallB L (e+c) u.t u.b=v at *
    simp [tapB,hcl,hgu,Tb.c,Col.c,hSl]
    (repeat' (first|contradiction|exact .ok|apply And.intro|intro _|(refine gc (fun h=>?_) (fun h=>?_)<;>(have h':=h;(try simp at h');first|done|simp[h,h']|simp))))
    refine acallT_hand [1000000] hsm (by simp) (by simp) (by simp) (by simp [tapB]) (by simp) ?_
    simp [tapB,hcl,hSl,V.a,V.c]
    (repeat' (first|contradiction|exact .ok|apply And.intro|intro _|(refine gc (fun h=>?_) (fun h=>?_)<;>(have h':=h;(try simp at h');first|done|simp[h,h']|simp))))
    refine ⟨c+1,by omega,?_,by simp; omega⟩
    simp only [hcs]
    refine sub_mk _ [(1000000,1000000,_),(4,4,_),(6,6,_),(7,7,_),(901,901,_),(12,12,_),(905,905,_),(903,903,_)] ⟨by simp,by simp,by simp [renOf,Blk.live,tapB,Tb.c,cv_gdR,cvA,List.map_set,V.c]; try omega,base1⟩ (by simp [renOf,hwc])
   obtain rfl:c=x.cols.length:=by omega
   obtain ⟨p,hp⟩:∃ p:Nat,hdI x.pr=p:=⟨(hdI x.pr).toNat,by omega⟩
   have hpl:p<x.cols.length:=by omega
   have hip:ints x.pr=[[.int .i64 p]]:=by
    obtain ⟨q,hq⟩:=len_one hp1
    rw [hq] at hp ⊢
    have:q=p:=hp
    rw [this]; rfl
   have hrp:rowP L x e k=(rowS L x e x.cols.length).set p (numV (k+1)):=by unfold rowP; rw [hp,Int.toNat_natCast]
   have hrpl:=rowP_len L x e k
   simp [tapB,Tb.c,hip,hSl,hpl,hwk]
   (repeat' (first|contradiction|exact .ok|apply And.intro|intro _|(refine gc (fun h=>?_) (fun h=>?_)<;>(have h':=h;(try simp at h');first|done|simp[h,h']|simp))))
   refine aloopT mix (by decide) (fun z:Nat=>{ s:=mkS [(0,.ptr 1000000 0 0),(2,.d (.int .i64 most)),(4,.ptr 4 0 0),(6,.ptr 6 0 0),(7,.ptr 7 0 0),(8,.d (.sl (ints O))),(10,.d (.int .i64 o)),(11,.d (.int .i64 i)),(12,.ptr 12 0 0),(13,.d (.int .i64 n)),(17,.d (.int .i64 k)),(18,.ref 903 0 x.cols.length 3),(20,.d (.int .i64 z))],b:=mkB [(1000000,1000000,tapB L (e+x.cols.length+z:Nat)),(4,4,.var [.d (.sl (S.map Tb.c))]),(6,6,.var [.nils]),(7,7,.var [.ref 901 0 S.length 1]),(901,901,.varr 49 1 (seqF (gdR T P i (.ref 905 0 k 1)) S.length)),(12,12,.var (x.c.map AV.d)),(905,905,.arr 71 1 (R.map rowD) false),(903,903,.arr 79 3 ((fkS L S x T (e+x.cols.length) z (rowP L x e k)).map V.c) false)] })
    (fun z=>z≤x.fk.length) (fun z=>x.fk.length - z) 0 (by simp)
    (sub_mk _ [(1000000,1000000,_),(4,4,_),(6,6,_),(7,7,_),(901,901,_),(12,12,_),(905,905,_),(903,903,_)] ⟨by simp,by simp,by simp [renOf,Blk.live,tapB,Tb.c,cv_gdR,cvA,fkS,hrp,List.map_set,numV,V.c,hip],base1⟩ (by simp [renOf])) ?_
   intro z hz
   have hFl:(fkS L S x T (e+x.cols.length) z (rowP L x e k)).length=x.cols.length:=by rw [fkS_len,hrpl]
   by_cases hzl:z<x.fk.length
   ·obtain ⟨g,hg⟩:∃ g,g=x.fk[z]:=⟨_,rfl⟩
    have hgg:∀ h,x.fk[z]'h=g:=fun _=>hg.symm
    have hgm:g∈x.fk:=by rw [hg]; exact List.getElem_mem hzl
    have hwz:=wrap_in (n:=(z:Int)+1) (by omega) (by omega)
    have hto:=hbef g hgm
    obtain ⟨ht0,ht1⟩:=hO.rng (tgt S g) (List.mem_of_mem_take (by rw [hP]; exact hto))
    obtain ⟨to,hte⟩:∃ t:Nat,tgt S g=t:=⟨(tgt S g).toNat,by omega⟩
    have htl:to<S.length:=by omega
    have htg:tgN S g=to:=by unfold tgN; rw [hte]; rfl
    rw [hte] at hto
    have hti:to ≠ i:=fun e0=>hiP (by rw [← e0]; exact hto)
    have hcell:∀ h,(seqF (gdR T P i (.ref 905 0 k 1)) S.length)[to]'h=[.d (.sl ((T to).map rowD))]:=fun hh=>by rw [gd_get htl]; unfold gdR gdC; rw [if_neg hti,if_pos hto]
    have hlen:=hpk g hgm
    rw [htg] at hlen
    obtain ⟨hg1,hg2,hg3⟩:=hfx g hgm
    obtain ⟨q,hq⟩:∃ q:Nat,hdI g.cols=q:=⟨(hdI g.cols).toNat,by omega⟩
    have hql:q<x.cols.length:=by omega
    have hig:ints g.cols=[[.int .i64 q]]:=by
     obtain ⟨r,hr⟩:=len_one hg1
     rw [hr] at hq ⊢
     have:r=q:=hq
     rw [this]; rfl
    have hsuc:fkS L S x T (e+x.cols.length) (z+1) (rowP L x e k)=(fkS L S x T (e+x.cols.length) z (rowP L x e k)).set q (numV (1+nextV L (e+x.cols.length+z) (T to).length)):=by
     rw [fkS,List.getElem?_eq_getElem hzl,← hg]
     simp only
     rw [hq,htg,Int.toNat_natCast]
    have hTto:=hTl to
    have htz:=t_next1 L (e+x.cols.length+z) (by omega) ((T to).length:Int) (by omega) (by omega)
    obtain ⟨hv0,hv1⟩:=nextV_in L (e+x.cols.length+z) (n:=((T to).length:Int)) (by omega)
    have hwv:=wrap_in (n:=1+nextV L (e+x.cols.length+z) ((T to).length:Int)) (by omega) (by omega)
    generalize nextV L (e+x.cols.length+z) ((T to).length:Int)=nv at *
    generalize hF:fkS L S x T (e+x.cols.length) z (rowP L x e k)=F at *
    simp [tapB,hzl,hgg,Tb.c,Fk.c]
    (repeat' (first|contradiction|exact .ok|apply And.intro|intro _|(refine gc (fun h=>?_) (fun h=>?_)<;>(have h':=h;(try simp at h');first|done|simp[h,h']|simp))))
    refine acallT_plain (r3_target S hl h.ok.ok hil hx.symm hzl hg.symm) (by simp [schA]) ?_
    rw [place_at (show fidx (fun y:Tb=>y.n==g.t) S 0=to from hte)]
    simp [tapB,hzl,hgg,Tb.c,Fk.c,hig,htl,hcell,hFl,hql]
    (repeat' (first|contradiction|exact .ok|apply And.intro|intro _|(refine gc (fun h=>?_) (fun h=>?_)<;>(have h':=h;(try simp at h');first|done|simp[h,h']|simp))))
    refine acallT_hand [1000000] htz (by simp) (by simp) (by simp) (by simp [tapB]) (by simp) ?_
    simp [tapB,hwv,hFl,hql]
    (repeat' (first|contradiction|exact .ok|apply And.intro|intro _|(refine gc (fun h=>?_) (fun h=>?_)<;>(have h':=h;(try simp at h');first|done|simp[h,h']|simp))))
    refine ⟨z+1,by omega,?_,by simp; omega⟩
    simp only [hsuc]
    exact sub_mk _ [(1000000,1000000,_),(4,4,_),(6,6,_),(7,7,_),(901,901,_),(12,12,_),(905,905,_),(903,903,_)] ⟨by simp,by simp,by simp [renOf,Blk.live,tapB,Tb.c,cv_gdR,cvA,List.map_set,numV,V.c]; try omega,base1⟩ (by simp [renOf,hwz])
   obtain rfl:z=x.fk.length:=by omega
   have hrg:rowG L S x T e k=fkS L S x T (e+x.cols.length) x.fk.length (rowP L x e k):=rfl
   rw [hrg] at hrow
   generalize hF:fkS L S x T (e+x.cols.length) x.fk.length (rowP L x e k)=F at *
   have htF:(F.map V.c).take x.cols.length=F.map V.c:=List.take_of_length_le (by simp [hFl])
   have htR:(R.map rowD).take k=R.map rowD:=List.take_of_length_le (by simp [hRl])
   simp [tapB,Tb.c,hil,hcx,hFl,htF,hRl,htR,szs k (by omega) 24 (by decide),szs (k+1) (by omega) 24 (by decide)]
   (repeat' (first|contradiction|exact .ok|apply And.intro|intro _|(refine gc (fun h=>?_) (fun h=>?_)<;>(have h':=h;(try simp at h');first|done|simp[h,h']|simp))))
   refine ⟨k+1,by omega,?_,by simp; omega⟩
   have hnI:(e:Int)+x.cols.length+x.fk.length=b+1+(k+1)*rowW x:=by
    have:=congrArg (fun n:Nat=>(n:Int)) hnext
    push_cast at this
    exact this.symm
   simp only [hrow]
   exact sub_mk _ [(1000000,1000000,_),(4,4,_),(6,6,_),(7,7,_),(901,901,_),(12,12,_),(905,158,_)] ⟨by simp,by simp,by simp [renOf,Blk.live,tapB,Tb.c,gdR_set,cv_gdR,cvA,rowD]; exact hnI,base1⟩ (by simp [renOf,hwk])
  obtain rfl:k=n:=by omega
  have hkn':¬ (k:Int)<k:=by omega
  have htR:((rowsG L S x T (b+1) k).map rowD).take k=(rowsG L S x T (b+1) k).map rowD:=List.take_of_length_le (by simp [hRl])
  simp [tapB,Tb.c]
  (repeat' (first|contradiction|exact .ok|apply And.intro|intro _|(refine gc (fun h=>?_) (fun h=>?_)<;>(have h':=h;(try simp at h');first|done|simp[h,h']|simp))))
  refine ⟨o+1,by omega,?_,by simp; omega⟩
  simp only [hst,htk,hP]
  refine sub_mk _ [(1000000,1000000,_),(4,4,_),(6,6,_),(7,7,_),(901,901,_)] ⟨by simp,by simp,?_,base1⟩ (by simp [renOf,hwo])
  have hR2:=hRl
  generalize rowsG L S x T (b+1) k=R at *
  have hdn:=gdR_done (T:=T) (R:=R) hiP
  simp [renOf,Blk.live,tapB,cv_gdR,cvA,toD,hR2,htR,hdn]
  try omega
 obtain rfl:o=O.length:=by omega
 simp [tapB]
 (repeat' (first|contradiction|exact .ok|apply And.intro|intro _|(refine gc (fun h=>?_) (fun h=>?_)<;>(have h':=h;(try simp at h');first|done|simp[h,h']|simp))))
 refine AExitTo.mk rfl ?_
 have hdt:Sub En 161 1 { s:=mkS [(6,.ptr 6 0 0),(7,.ptr 7 0 0)],b:=mkB [(1000000,1000000,tapB L (Z O.length).2),(6,6,.var [.nils]),(7,7,.var [.ref 901 0 S.length 1]),(901,901,.varr 49 1 (seqF (gdQ (Z O.length).1 O) S.length))] }
   { s:=mkS [(6,.ptr 6 0 0),(7,.ptr 7 0 0)],b:=mkB [(1000000,1000000,tapB L (Z O.length).2),(6,6,.var [.nils]),(7,7,.var [.ref 901 0 S.length 1]),(901,901,.arr 49 1 (seqF (fun j=>[.sl (((Z O.length).1 j).map rowD)]) S.length) false)] }:=by
  refine (sub_dat 901 (ety:=49) (xs:=seqF (gdQ (Z O.length).1 O) S.length) (seqF (fun j=>[.sl (((Z O.length).1 j).map rowD)]) S.length) (by simp) (by simp) ?_).trans (sub_mk _ [(1000000,1000000,_),(6,6,_),(7,7,_),(901,901,_)] ⟨by simp,by simp,by simp [renOf,Blk.live,tapB],base1⟩ (by simp [renOf]))
  intro j x y hx hy
  rw [seqF_get] at hx hy
  split at hx <;> simp only [Option.some.injEq,reduceCtorEq] at hx
  rename_i hj
  rw [if_pos hj,Option.some.injEq] at hy
  subst hx hy
  refine ⟨_,_,rfl,rfl,?_⟩
  unfold gdC
  split
  ·rfl
  ·rename_i hno
   rw [hout j hno]; rfl
 refine .trans ?_ hdt
 exact sub_mk _ [(1000000,1000000,_),(6,6,_),(7,7,_),(901,901,_)] ⟨by simp,by simp,by simp [renOf,Blk.live,tapB,cv_gdQ],base1⟩ (by simp [renOf])
end Go.Proofs.Tryz
