import Derived.Test.YtklnfckiabhceaaGreatDoorKGoo
import Derived.Test.YtklnfckiabhceaaGreatDoorRgb
set_option linter.all false
namespace Go.Proofs.Tryz
open Go.Ab
set_option maxRecDepth 100000
set_option maxHeartbeats 8000000
theorem t_world (L:List Int) (i:Nat) (hi:i≤700000) (S:List Tb) (b:Nat) (hS:S=(tabsP L (i+1) (1+nextV L i 3).toNat).1) (hb:b=(tabsP L (i+1) (1+nextV L i 3).toNat).2) (h:MadeS S) :
  Cf Es 12 [.ptr 1000000 0 0] [tapB L i] (worldA S (worldG L S (ordS S).1 (fun _=>none) (fun _=>none) b)) [tapB L (worldG L S (ordS S).1 (fun _=>none) (fun _=>none) b).i]:=by
 refine cf_introS mixs (fn:=Tryz.f12) (by kernel_rfl) rfl (by kernel_rfl) (by decide) (by simp) ?_
 have hpl:=ups (t_plain L i (by omega))
 rw [← hS,← hb] at hpl
 have hn3:=nextV_in L i (n:=3) (by omega)
 have hbl:=tabsP_le L (i+1) (1+nextV L i 3).toNat
 rw [← hb] at hbl
 clear hS hb
 have hfew:=h.fill.few
 have hO:=ordS_ok S
 have hOl:=ordS_len S
 have hor:=ups (r3_order S (by omega) h.fill.ok.ok)
 obtain ⟨O,hOe⟩:∃ O,O=(ordS S).1:=⟨_,rfl⟩
 rw [← hOe] at hO hOl hor ⊢
 obtain ⟨T,hT⟩:∃ T,T=worldG L S O (fun _=>none) (fun _=>none) b:=⟨_,rfl⟩
 rw [← hT]
 clear hOe
 simp [tapB]
 (repeat' (first|contradiction|exact .ok|apply And.intro|intro _|(refine gc (fun h=>?_) (fun h=>?_)<;>(have h':=h;(try simp at h');first|done|simp[h,h']|simp))))
 refine acallT_hand [1000000] hpl (by simp) (by simp) (by simp) (by simp [tapB]) (by simp) ?_
 simp [tapB,show 24*(S.length:Int)≤281474976710656 from by omega,(mk8 S.length (by omega)).1]
 (repeat' (first|contradiction|exact .ok|apply And.intro|intro _|(refine gc (fun h=>?_) (fun h=>?_)<;>(have h':=h;(try simp at h');first|done|simp[h,h']|simp))))
 refine acallT_plain hor (by simp [schA]) ?_
 simp
 (repeat' (first|contradiction|exact .ok|apply And.intro|intro _|(refine gc (fun h=>?_) (fun h=>?_)<;>(have h':=h;(try simp at h');first|done|simp[h,h']|simp))))
 refine aloopT mixs (by decide) (fun y:Nat×WA×WR×Nat=>{ s:=mkS [(0,.ptr 1000000 0 0),(2,.ptr 2 0 0),(6,.ptr 6 0 0),(7,.ref 901 0 S.length 1),(8,.ref 902 0 S.length 1),(9,.d (.sl (ints O))),(11,.d (.int .i64 y.1))],b:=mkB [(1000000,1000000,tapB L y.2.2.2),(2,2,.var [.nils]),(6,6,.var [.d (.sl (S.map Tb.c))]),(901,901,.varr 59 1 (seqF (celA y.2.1) S.length)),(902,902,.varr 61 1 (seqF (celR y.2.2.1) S.length))] })
  (fun y=>y.1≤O.length∧worldG L S (O.drop y.1) y.2.1 y.2.2.1 y.2.2.2=T∧y.2.2.2≤b+11*y.1∧∀ z∈O.take y.1,(y.2.2.1 z.toNat).isSome=true) (fun y=>O.length - y.1) (0,fun _=>none,fun _=>none,b) ⟨by simp,by simp [hT],by simp,by simp⟩
  ((sub_nils 28 (m:=S.length) (ety:=59) (by simp [nilD])).trans ((sub_nils 32 (m:=S.length) (ety:=61) (by simp [nilD,upd])).trans (sub_mk _ [(1000000,1000000,_),(2,2,_),(6,6,_),(901,28,_),(902,32,_)] ⟨by simp,by simp,by simp [renOf,Blk.live,tapB,celA_zero,celR_zero,schA],base1⟩ (by simp [renOf])))) ?_
 clear hT
 rintro ⟨o,A,R,e⟩ ⟨ho,hT,he,hR⟩
 simp only at ho hT he hR
 by_cases hol:o<O.length
 ·obtain ⟨hi0,hi1⟩:=hO.rng O[o] (List.getElem_mem hol)
  obtain ⟨n,hn⟩:∃ i:Nat,O[o]=i:=⟨O[o].toNat,by omega⟩
  have hnl:n<S.length:=by omega
  obtain ⟨x,hx⟩:∃ x,x=S[n]:=⟨_,rfl⟩
  have hgx:∀ h,S[n]'h=x:=fun _=>hx.symm
  have hxm:x∈S:=by rw [hx]; exact List.getElem_mem hnl
  have hgo:=ints_get hol
  rw [hn] at hgo
  have hgo2:∀ h,O[o]'h=(n:Int):=fun _=>hn
  have hfko:fkO S n=x.fk:=by unfold fkO; rw [List.getElem?_eq_getElem hnl,← hx]
  have hbef:=hO.bef o hol
  rw [hn,Int.toNat_natCast,hfko] at hbef
  have htab:tabO S n=x:=by unfold tabO; rw [List.getElem?_eq_getElem hnl,← hx]; rfl
  have htk:O.take (o+1)=O.take o++[(n:Int)]:=by rw [take_snoc hol,hn]
  have hwo:=wrap_in (n:=(o:Int)+1) (by omega) (by omega)
  have hlo:=wL_ok L h e n hnl
  have hxmd:=h.made x hxm
  obtain ⟨hch1,hch2⟩:=h.ch x hxm
  have hxf:=(h.fill.fk x hxm).1
  rw [List.drop_eq_getElem_cons hol,hn,worldG,Int.toNat_natCast] at hT
  have hat:=ups (t_atoms L e (by omega) x hxmd 2 (by omega))
  have h23:((2:Nat):Int)+1=3:=rfl
  rw [h23] at hat
  have hwA:wA L S e n=atsG L x (nextV L e 3).toNat (e+1):=by unfold wA; rw [htab]
  rw [← hwA] at hat
  have hal:=wA_le L S e n
  have hawl:(wA L S e n).1.length≤2:=by
   rw [hwA]
   have hv:=nextV_in L e (n:=3) (by omega)
   have:=atsG_len L x (nextV L e 3).toNat (e+1)
   omega
  have hwL:wL L S e n=chkL (wA L S e n).1 x.ch:=by unfold wL; rw [htab]
  obtain ⟨l0,e1,hw0⟩:∃ l0 e1,wA L S e n=(l0,e1):=⟨_,_,rfl⟩
  rw [hw0] at hat hal hawl hwL hT
  simp only at hat hal hawl hwL hT
  simp [tapB,hol,hgo,hgo2,hnl,hgx,Tb.c]
  (repeat' (first|contradiction|exact .ok|apply And.intro|intro _|(refine gc (fun h=>?_) (fun h=>?_)<;>(have h':=h;(try simp at h');first|done|simp[h,h']|simp))))
  refine acallT_hand [1000000] hat (by simp) (by simp) (by simp) (by simp [tapB]) (by simp [Tb.a,Tb.c]) ?_
  obtain ⟨cA,hcA⟩:=celA_one A n
  have hgA:=cel_get hnl hcA
  simp [tapB,hnl,hgA,celA_set]
  (repeat' (first|contradiction|exact .ok|apply And.intro|intro _|(refine gc (fun h=>?_) (fun h=>?_)<;>(have h':=h;(try simp at h');first|done|simp[h,h']|simp))))
  refine aloopT mixs (by decide) (fun k:Nat=>{ s:=mkS [(0,.ptr 1000000 0 0),(2,.ptr 2 0 0),(6,.ptr 6 0 0),(7,.ref 901 0 S.length 1),(8,.ref 902 0 S.length 1),(9,.d (.sl (ints O))),(11,.d (.int .i64 o)),(12,.d (.int .i64 n)),(13,.d (.int .i64 k))],b:=mkB [(1000000,1000000,tapB L e1),(2,2,.var [.nils]),(6,6,.var [.d (.sl (S.map Tb.c))]),(901,901,.varr 59 1 (seqF (celA (upd A n (some (chkL l0 (x.ch.take k))))) S.length)),(902,902,.varr 61 1 (seqF (celR R) S.length))] })
   (fun k=>k≤x.ch.length) (fun k=>x.ch.length - k) 0 (by simp)
   (sub_mk _ [(1000000,1000000,_),(2,2,_),(6,6,_),(901,901,_),(902,902,_)] ⟨by simp,by simp,by simp [renOf,Blk.live,tapB,chkL,cv_celA,cv_celR],base1⟩ (by simp [renOf])) ?_
  intro k hk
  by_cases hkl:k<x.ch.length
  ·obtain ⟨q,hq⟩:∃ q,q=x.ch[k]:=⟨_,rfl⟩
   have hgq:∀ h,x.ch[k]'h=q:=fun _=>hq.symm
   obtain ⟨a,ha,hqa⟩:=hch2 q (by rw [hq]; exact List.getElem_mem hkl)
   have hca:=ups (r13_atoms x hxmd.ok a ha)
   have hwk:=wrap_in (n:=(k:Int)+1) (by omega) (by omega)
   have htk1:chkL l0 (x.ch.take (k+1))=insA (chkL l0 (x.ch.take k)) a:=by rw [take_snoc hkl,← hq,chkL_snoc,hqa,exAt_ex ha]
   have hkl1:(chkL l0 (x.ch.take k)).length≤1000:=by
    have h1:=(chkL_ok (x:=x) (ch:=x.ch.take k) (l:=l0) (fun e he=>hch2 e (List.mem_of_mem_take he)) (fun b hb=>by
     have:b∈(wA L S e n).1:=by rw [hw0]; exact hb
     rw [hwA] at this
     exact atsG_ok L hxmd _ _ b this)).1
    rw [List.length_take] at h1
    omega
   have hin:=ups (r13_insert (chkL l0 (x.ch.take k)) hkl1 a)
   rw [← htk1] at hin
   obtain ⟨l2,hl2⟩:∃ l2,l2=chkL l0 (x.ch.take (k+1)):=⟨_,rfl⟩
   rw [← hl2] at hin htk1
   generalize chkL l0 (x.ch.take k)=l1 at *
   rw [← hqa] at hca
   rcases q with ⟨qo,qc,qn,qt,qg,qs⟩
   simp [tapB,hnl,hgx,Tb.c,hkl,hgq,Ex.c]
   (repeat' (first|contradiction|exact .ok|apply And.intro|intro _|(refine gc (fun h=>?_) (fun h=>?_)<;>(have h':=h;(try simp at h');first|done|simp[h,h']|simp))))
   refine acallT_plain hca (by simp [Tb.a,Tb.c,Ex.a,Ex.c]) ?_
   simp [atomsA]
   (repeat' (first|contradiction|exact .ok|apply And.intro|intro _|(refine gc (fun h=>?_) (fun h=>?_)<;>(have h':=h;(try simp at h');first|done|simp[h,h']|simp))))
   refine aloopT mixs (by decide) (fun j:Nat=>{ s:=mkS [(0,.ptr 1000000 0 0),(2,.ptr 2 0 0),(6,.ptr 6 0 0),(7,.ref 901 0 S.length 1),(8,.ref 902 0 S.length 1),(9,.d (.sl (ints O))),(11,.d (.int .i64 o)),(12,.d (.int .i64 n)),(13,.d (.int .i64 k)),(14,.d (.sl [a.c])),(15,.d (.bool true)),(16,.d (.int .i64 j))],b:=mkB [(1000000,1000000,tapB L e1),(2,2,.var [.nils]),(6,6,.var [.d (.sl (S.map Tb.c))]),(901,901,.varr 59 1 (seqF (celA (upd A n (some (if j=0 then l1 else l2)))) S.length)),(902,902,.varr 61 1 (seqF (celR R) S.length))] })
    (fun j=>j≤1) (fun j=>1 - j) 0 (by simp)
    (sub_mk _ [(1000000,1000000,_),(2,2,_),(6,6,_),(901,901,_),(902,902,_)] ⟨by simp,by simp,by simp [renOf,Blk.live,tapB,cv_celA,cv_celR],base1⟩ (by simp [renOf])) ?_
   intro j hj
   cases j with
   | zero =>
     have hcc:celA (upd A n (some l1)) n=[.d (.sl (l1.map At.c))]:=by simp [celA,upd]
     have hgc:=cel_get hnl hcc
     have hw1:=wrap_in (n:=(1:Int)) (by omega) (by omega)
     have huu:upd (upd A n (some l1)) n (some l2)=upd A n (some l2):=by funext j; simp only [upd]; split <;> rfl
     simp [tapB,hnl,hgc,At.c]
     (repeat' (first|contradiction|exact .ok|apply And.intro|intro _|(refine gc (fun h=>?_) (fun h=>?_)<;>(have h':=h;(try simp at h');first|done|simp[h,h']|simp))))
     refine acallT_plain hin (by simp [At.a,At.c]) ?_
     simp [tapB,hnl,hgc,celA_set,huu]
     (repeat' (first|contradiction|exact .ok|apply And.intro|intro _|(refine gc (fun h=>?_) (fun h=>?_)<;>(have h':=h;(try simp at h');first|done|simp[h,h']|simp))))
     refine ⟨1,by omega,?_,by simp⟩
     exact sub_mk _ [(1000000,1000000,_),(2,2,_),(6,6,_),(901,901,_),(902,902,_)] ⟨by simp,by simp,by simp [renOf,Blk.live,tapB,cv_celA,cv_celR],base1⟩ (by simp [renOf,hw1,At.c])
   | succ j =>
     obtain rfl:j=0:=by omega
     simp [tapB]
     (repeat' (first|contradiction|exact .ok|apply And.intro|intro _|(refine gc (fun h=>?_) (fun h=>?_)<;>(have h':=h;(try simp at h');first|done|simp[h,h']|simp))))
     refine ⟨k+1,by omega,?_,by simp; omega⟩
     exact sub_mk _ [(1000000,1000000,_),(2,2,_),(6,6,_),(901,901,_),(902,902,_)] ⟨by simp,by simp,by simp [renOf,Blk.live,tapB,cv_celA,cv_celR,← hl2],base1⟩ (by simp [renOf,hwk])
  obtain rfl:k=x.ch.length:=by omega
  rw [List.take_length,← hwL]
  have hcc:celA (upd A n (some (wL L S e n))) n=[.d (.sl ((wL L S e n).map At.c))]:=by simp [celA,upd]
  have hgc:=cel_get hnl hcc
  have hlen:=hlo.len
  rw [htab] at hlo
  have hrg:=r13_regions S h.fill n (wL L S e n) (by omega) (wP S R n)
  have hwQ:wQ L S R e n=regS S n (wL L S e n) (wP S R n):=rfl
  rw [← hwQ] at hrg
  have hwP:wP S R n=x.fk.map fun g=>(R (tgN S g)).getD []:=by unfold wP; rw [htab]
  rw [hwP] at hrg
  clear hwL hwQ hwP hcA hgA
  generalize wL L S e n=l at *
  generalize wQ L S R e n=Q at *
  simp [tapB,hnl,hgx,Tb.c]
  (repeat' (first|contradiction|exact .ok|apply And.intro|intro _|(refine gc (fun h=>?_) (fun h=>?_)<;>(have h':=h;(try simp at h');first|done|simp[h,h']|simp))))
  refine aloopT mixs (by decide) (fun f:Nat=>{ s:=mkS [(0,.ptr 1000000 0 0),(2,.ptr 2 0 0),(6,.ptr 6 0 0),(7,.ref 901 0 S.length 1),(8,.ref 902 0 S.length 1),(9,.d (.sl (ints O))),(11,.d (.int .i64 o)),(12,.d (.int .i64 n)),(17,.ref 903 0 f 1),(18,.d (.int .i64 f))],b:=mkB [(1000000,1000000,tapB L e1),(2,2,.var [.nils]),(6,6,.var [.d (.sl (S.map Tb.c))]),(901,901,.varr 59 1 (seqF (celA (upd A n (some l))) S.length)),(902,902,.varr 61 1 (seqF (celR R) S.length)),(903,903,.arr 61 1 (((x.fk.take f).map fun g=>(R (tgN S g)).getD []).map rgD) false)] })
   (fun f=>f≤x.fk.length) (fun f=>x.fk.length - f) 0 (by simp)
   (sub_mkn 17 903 61 1 (by simp) (by simp) (by decide) (by decide) _ [(1000000,1000000,_),(2,2,_),(6,6,_),(901,901,_),(902,902,_),(903,903,_)] ⟨by simp,by simp,by simp [renOf,Blk.live,tapB,cv_celA,cv_celR],base1⟩ (by simp [renOf])) ?_
  intro f hf
  by_cases hfl:f<x.fk.length
  ·obtain ⟨g,hg⟩:∃ g,g=x.fk[f]:=⟨_,rfl⟩
   have hgg:∀ h,x.fk[f]'h=g:=fun _=>hg.symm
   have hgm:g∈x.fk:=by rw [hg]; exact List.getElem_mem hfl
   have hwf:=wrap_in (n:=(f:Int)+1) (by omega) (by omega)
   have hto:=hbef g hgm
   obtain ⟨ht0,ht1⟩:=hO.rng (tgt S g) (List.mem_of_mem_take hto)
   obtain ⟨to,hte⟩:∃ t:Nat,tgt S g=t:=⟨(tgt S g).toNat,by omega⟩
   have htl:to<S.length:=by omega
   have htg:tgN S g=to:=by unfold tgN; rw [hte]; rfl
   have hsome:=hR (tgt S g) hto
   rw [hte,Int.toNat_natCast] at hsome
   obtain ⟨rr,hrr⟩:=Option.isSome_iff_exists.1 hsome
   have hcr:celR R to=[.d (.sl (rr.map Rg.c))]:=by simp [celR,hrr]
   have hgr:=cel_get htl hcr
   have hmf:=map_take (f:=fun g=>(R (tgN S g)).getD []) hfl
   rw [← hg,htg,hrr,Option.getD_some] at hmf
   have hml:((x.fk.take f).map fun g=>(R (tgN S g)).getD []).length=f:=by rw [List.length_map,List.length_take]; omega
   have hta:=ups (r3_target S (by omega) h.fill.ok.ok hnl hx.symm hfl hg.symm)
   rw [place_at (show fidx (fun y:Tb=>y.n==g.t) S 0=to from hte)] at hta
   generalize ((x.fk.take f).map fun g=>(R (tgN S g)).getD [])=U at *
   have htkU:(U.map rgD).take f=U.map rgD:=List.take_of_length_le (by simp [hml])
   simp [tapB,hnl,hgx,Tb.c,hfl]
   (repeat' (first|contradiction|exact .ok|apply And.intro|intro _|(refine gc (fun h=>?_) (fun h=>?_)<;>(have h':=h;(try simp at h');first|done|simp[h,h']|simp))))
   refine acallT_plain hta (by simp [schA]) ?_
   simp [htl,hgr,hml,htkU,szs f (by omega) 24 (by decide),szs (f+1) (by omega) 24 (by decide)]
   (repeat' (first|contradiction|exact .ok|apply And.intro|intro _|(refine gc (fun h=>?_) (fun h=>?_)<;>(have h':=h;(try simp at h');first|done|simp[h,h']|simp))))
   refine ⟨f+1,by omega,?_,by simp; omega⟩
   exact sub_mk _ [(1000000,1000000,_),(2,2,_),(6,6,_),(901,901,_),(902,902,_),(903,132,_)] ⟨by simp,by simp,by simp [renOf,Blk.live,tapB,cv_celA,cv_celR,hmf,rgD],base1⟩ (by simp [renOf,hwf])
  obtain rfl:f=x.fk.length:=by omega
  rw [List.take_length]
  have hPl:(x.fk.map fun g=>(R (tgN S g)).getD []).length=x.fk.length:=by simp
  generalize (x.fk.map fun g=>(R (tgN S g)).getD [])=PP at *
  have htkP:(PP.map rgD).take x.fk.length=PP.map rgD:=List.take_of_length_le (by simp [hPl])
  simp [tapB,hnl,hgx,Tb.c,hgc,htkP]
  (repeat' (first|contradiction|exact .ok|apply And.intro|intro _|(refine gc (fun h=>?_) (fun h=>?_)<;>(have h':=h;(try simp at h');first|done|simp[h,h']|simp))))
  refine acallT_plain hrg (by simp [schA,hPl,htkP]) ?_
  rcases Q with ⟨q1,q2⟩
  by_cases hb:wBad (q1,q2)=true
  ·rw [if_pos hb] at hT
   subst hT
   have hor2:¬ q1=0∨(q1=0∧(300:Int)<q2.length):=by
    unfold wBad at hb
    rw [Bool.or_eq_true,decide_eq_true_eq,decide_eq_true_eq] at hb
    simp only at hb
    omega
   rcases hor2 with k1 | ⟨k1,k2⟩
   ·simp [regA,k1,hPl,htkP]
    (repeat' (first|contradiction|exact .ok|apply And.intro|intro _|(refine gc (fun h=>?_) (fun h=>?_)<;>(have h':=h;(try simp at h');first|done|simp[h,h',k1]|simp[k1]))))
    refine EndsS.mk _ ((sub_celA 901 (M:=S.length) (A:=upd A n (some l)) (ety:=59) (by simp)).trans (sub_celR 902 (M:=S.length) (R:=R) (ety:=61) (by simp [upd]))) ?_
    have hl1:=outL_len (upd A n (some l)) S.length
    have hl2:=outL_len R S.length
    have ht1:((outL (upd A n (some l)) S.length).map atD).take S.length=(outL (upd A n (some l)) S.length).map atD:=List.take_of_length_le (by simp [hl1])
    have ht2:((outL R S.length).map rgD).take S.length=(outL R S.length).map rgD:=List.take_of_length_le (by simp [hl2])
    simp [tapB,worldA,schA,hl1,hl2,ht1,ht2]
    all_goals exact gz
   ·simp [regA,k1,k2,hPl,htkP]
    (repeat' (first|contradiction|exact .ok|apply And.intro|intro _|(refine gc (fun h=>?_) (fun h=>?_)<;>(have h':=h;(try simp at h');first|done|simp[h,h',k1,k2]|simp[k1,k2]))))
    refine EndsS.mk _ ((sub_celA 901 (M:=S.length) (A:=upd A n (some l)) (ety:=59) (by simp)).trans (sub_celR 902 (M:=S.length) (R:=R) (ety:=61) (by simp [upd]))) ?_
    have hl1:=outL_len (upd A n (some l)) S.length
    have hl2:=outL_len R S.length
    have ht1:((outL (upd A n (some l)) S.length).map atD).take S.length=(outL (upd A n (some l)) S.length).map atD:=List.take_of_length_le (by simp [hl1])
    have ht2:((outL R S.length).map rgD).take S.length=(outL R S.length).map rgD:=List.take_of_length_le (by simp [hl2])
    simp [tapB,worldA,schA,hl1,hl2,ht1,ht2]
    all_goals exact gz
  ·rw [if_neg hb] at hT
   unfold wBad at hb
   rw [Bool.or_eq_true,decide_eq_true_eq,decide_eq_true_eq] at hb
   simp only at hb hT
   have k1:q1=0:=by omega
   have k2:¬ (300:Int)<q2.length:=by omega
   obtain ⟨cR,hcR⟩:=celR_one R n
   have hgR:=cel_get hnl hcR
   simp [regA,k1,k2,hPl,htkP,hnl,hgR,celR_set]
   (repeat' (first|contradiction|exact .ok|apply And.intro|intro _|(refine gc (fun h=>?_) (fun h=>?_)<;>(have h':=h;(try simp at h');first|done|simp[h,h',k1,k2,hnl,hgR,celR_set]|simp[k1,k2,hnl,hgR,celR_set]))))
   refine ⟨(o+1,upd A n (some l),upd R n (some q2),e1),⟨by simp only; omega,hT,by simp only; omega,?_⟩,?_,by simp; omega⟩
   ·intro z hz
    simp only at hz ⊢
    rw [htk] at hz
    simp only [upd]
    split
    ·rfl
    ·rcases List.mem_append.1 hz with hz | hz
     ·exact hR z hz
     ·rw [List.mem_singleton] at hz
      rename_i hne
      exact absurd (by rw [hz]; rfl) hne
   ·exact sub_mk _ [(1000000,1000000,_),(2,2,_),(6,6,_),(901,901,_),(902,902,_)] ⟨by simp,by simp,by simp [renOf,Blk.live,tapB,cv_celA,cv_celR],base1⟩ (by simp [renOf,hwo])
 obtain rfl:o=O.length:=by omega
 rw [List.drop_length,worldG] at hT
 subst hT
 simp [tapB]
 (repeat' (first|contradiction|exact .ok|apply And.intro|intro _|(refine gc (fun h=>?_) (fun h=>?_)<;>(have h':=h;(try simp at h');first|done|simp[h,h']|simp))))
 refine EndsS.mk _ ((sub_celA 901 (M:=S.length) (A:=A) (ety:=59) (by simp)).trans (sub_celR 902 (M:=S.length) (R:=R) (ety:=61) (by simp [upd]))) ?_
 have hl1:=outL_len A S.length
 have hl2:=outL_len R S.length
 have ht1:((outL A S.length).map atD).take S.length=(outL A S.length).map atD:=List.take_of_length_le (by simp [hl1])
 have ht2:((outL R S.length).map rgD).take S.length=(outL R S.length).map rgD:=List.take_of_length_le (by simp [hl2])
 simp [tapB,worldA,schA,hl1,hl2,ht1,ht2]
 all_goals exact gz
end Go.Proofs.Tryz
