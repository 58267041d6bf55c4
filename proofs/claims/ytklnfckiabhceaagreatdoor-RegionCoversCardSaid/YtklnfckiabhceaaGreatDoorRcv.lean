import Derived.Test.YtklnfckiabhceaaGreatDoorRpg
import Derived.Test.YtklnfckiabhceaaGreatDoorKRcr
import Derived.Test.YtklnfckiabhceaaGreatDoorKGoo
import Derived.Test.YtklnfckiabhceaaGreatDoorPlw
import Derived.Test.YtklnfckiabhceaaGreatDoorGue
set_option linter.all false
namespace Go.Proofs.Tryz
open Go.Ab
set_option maxRecDepth 100000
set_option maxHeartbeats 8000000
theorem region_covers (L:List Int) :
  Cf Es 6 [.d (.sl (ints L))] [] (.d (.bool true)) []:=by
 refine cf_intro mixs (fn:=Tryz.f6) (by kernel_rfl) rfl (by kernel_rfl) (by decide) (by simp) ?_
 have hpl:=ups (t_plain L 0 (by omega))
 obtain ⟨N,hN⟩:∃ N,N=(1+nextV L 0 3).toNat:=⟨_,rfl⟩
 have hn3:=nextV_in L 0 (n:=3) (by omega)
 rw [← hN] at hpl
 have hN3:N≤6:=by omega
 have hM:=made_free L (0+1) N hN3
 have hPl:=plain_free L (0+1) N hN3
 have hbl:=tabsP_le L (0+1) N
 have hsk:=sok_made L (0+1) N (by omega)
 have hfree:=ups (t_free (tabsP L (0+1) N).1 (by rw [tabsP_len]; omega))
 have hNl:(freS (tabsP L (0+1) N).1).length=N:=by rw [freS_len,tabsP_len]
 have hch:∀ x∈freS (tabsP L (0+1) N).1,x.ch=[]:=fun x hx=>by
  obtain ⟨y,_,rfl⟩:=List.mem_map.1 hx
  rfl
 obtain ⟨S,hS⟩:∃ S,S=freS (tabsP L (0+1) N).1:=⟨_,rfl⟩
 obtain ⟨b,hb⟩:∃ b,b=(tabsP L (0+1) N).2:=⟨_,rfl⟩
 rw [← hS] at hM hPl hfree hNl hch
 rw [← hb] at hpl hbl
 generalize (tabsP L (0+1) N).1=S0 at *
 clear hS hb hN
 have hF:=hM.fill
 have hD:Dec S:=dec_of hM.dec
 have hfew:=hF.few
 have hor:=ups (r3_order S (by omega) hF.ok.ok)
 rw [ordS_dec hD] at hor
 have hOl:=upN_len S.length 0
 have hOat:∀ o,o<S.length→(upN 0 S.length)[o]?=some (o:Int):=fun o ho=>by
  have:∀ (n j o:Nat),o<n→(upN j n)[o]?=some ((j+o:Nat):Int):=by
   intro n
   induction n with
   | zero=>intro j o h; omega
   | succ n ih =>
     intro j o h
     rw [upN]
     cases o with
     | zero=>simp
     | succ o =>
       rw [List.getElem?_cons_succ,ih (j+1) o (by omega)]
       congr 2
       omega
  simpa using this S.length 0 o ho
 generalize upN 0 S.length=O at *
 simp [tapB] at hpl ⊢
 (repeat' (first|contradiction|exact .ok|apply And.intro|intro _|(refine gc (fun h=>?_) (fun h=>?_)<;>(have h':=h;(try simp at h');first|done|simp[h,h']|simp))))
 refine acallT_hand [27] hpl (by simp) (by simp) (by simp) (by simp [tapB,ints]) (by simp) ?_
 simp [tapB]
 (repeat' (first|contradiction|exact .ok|apply And.intro|intro _|(refine gc (fun h=>?_) (fun h=>?_)<;>(have h':=h;(try simp at h');first|done|simp[h,h']|simp))))
 refine acallT_plain hfree (by simp [schA]) ?_
 simp [schA,tapB,show 24*(S.length:Int)≤281474976710656 from by omega,(mk8 S.length (by omega)).1]
 (repeat' (first|contradiction|exact .ok|apply And.intro|intro _|(refine gc (fun h=>?_) (fun h=>?_)<;>(have h':=h;(try simp at h');first|done|simp[h,h']|simp))))
 refine acallT_plain hor (by simp [schA]) ?_
 simp
 (repeat' (first|contradiction|exact .ok|apply And.intro|intro _|(refine gc (fun h=>?_) (fun h=>?_)<;>(have h':=h;(try simp at h');first|done|simp[h,h']|simp))))
 refine aloopT mixs (by decide) (fun y:Nat×WA×WR×Nat=>{ s:=mkS [(3,.ptr 27 0 0),(4,.ptr 4 0 0),(5,.ref 901 0 S.length 1),(6,.ref 902 0 S.length 1),(7,.d (.sl (ints O))),(9,.d (.int .i64 y.1))],b:=mkB [(27,27,tapB L y.2.2.2),(4,4,.var [.d (.sl (S.map Tb.c))]),(901,901,.varr 59 1 (seqF (celA y.2.1) S.length)),(902,902,.varr 61 1 (seqF (celR y.2.2.1) S.length))] })
  (fun y=>y.1≤S.length∧CInv S y.2.1 y.2.2.1 y.1∧y.2.2.2≤b+11*y.1) (fun y=>S.length - y.1) (0,fun _=>none,fun _=>none,b) ⟨by simp,fun k hk=>absurd hk (by simp),by simp⟩
  ((sub_nils 34 (m:=S.length) (ety:=59) (by simp [nilD])).trans ((sub_nils 38 (m:=S.length) (ety:=61) (by simp [nilD,upd])).trans (sub_mk _ [(27,27,_),(4,4,_),(901,34,_),(902,38,_)] ⟨by simp,by simp,by simp [renOf,Blk.live,tapB,celA_zero,celR_zero,schA],by simp⟩ (by simp [renOf])))) ?_
 rintro ⟨o,A,R,e⟩ ⟨ho,hI,he⟩
 simp only at ho hI he
 by_cases hol:o<S.length
 ·have hoO:o<O.length:=by omega
  obtain ⟨x,hx⟩:∃ x,x=S[o]:=⟨_,rfl⟩
  have hgx:∀ h,S[o]'h=x:=fun _=>hx.symm
  have hxm:x∈S:=by rw [hx]; exact List.getElem_mem hol
  have hgo2:∀ h,O[o]'h=(o:Int):=fun h=>by
   have:=hOat o hol
   rw [List.getElem?_eq_getElem h,Option.some.injEq] at this
   exact this
  have hgo:=ints_get hoO
  rw [hgo2] at hgo
  have htab:tabO S o=x:=by unfold tabO; rw [List.getElem?_eq_getElem hol,← hx]; rfl
  have hwo:=wrap_in (n:=(o:Int)+1) (by omega) (by omega)
  have hxmd:=hM.made x hxm
  have hxf:=(hF.fk x hxm).1
  have hat:=ups (t_atoms L e (by omega) x hxmd 2 (by omega))
  have h23:((2:Nat):Int)+1=3:=rfl
  rw [h23] at hat
  have hwA:wA L S e o=atsG L x (nextV L e 3).toNat (e+1):=by unfold wA; rw [htab]
  rw [← hwA] at hat
  have hal:=wA_le L S e o
  obtain ⟨hpe,hpb⟩:=cinv_par hD hol hI
  have hrok:=reg_made L hM hPl hch hol hpe (e:=e)
  have hawl:(wA L S e o).1.length≤2∧∀ a∈(wA L S e o).1,a.v.t.length≤200:=by
   rw [hwA]
   have hv:=nextV_in L e (n:=3) (by omega)
   have:=atsG_len L x (nextV L e 3).toNat (e+1)
   exact ⟨by omega,fun a ha=>by have:=(atsG_ok L hxmd _ _ a ha).len; omega⟩
  obtain ⟨l,e1,hw0⟩:∃ l0 e1,wA L S e o=(l0,e1):=⟨_,_,rfl⟩
  rw [hw0] at hat hal hawl hrok
  simp only at hat hal hawl hrok
  obtain ⟨hl2,hlt⟩:=hawl
  have hrg:=p13_regions S hF o l (by omega) (wP S R o) hpb
  generalize hQ:regS S o l (wP S R o)=Q at *
  have hwP:wP S R o=x.fk.map fun g=>(R (tgN S g)).getD []:=by unfold wP; rw [htab]
  have hstep:=fun r=>cinv_step (A:=A) (R:=R) hD hol hI (l:=l) (r:=r)
  have hpos:=fun k hk=>cinv_pos hI (k:=k) hk
  rw [htab] at hrok hstep
  rw [hwP] at hrg hrok hstep
  clear hw0 hwA hQ hwP hpe hpb
  simp [tapB,hol,hoO,hgo,hgo2,hgx,Tb.c]
  (repeat' (first|contradiction|exact .ok|apply And.intro|intro _|(refine gc (fun h=>?_) (fun h=>?_)<;>(have h':=h;(try simp at h');first|done|simp[h,h']|simp))))
  refine acallT_hand [27] hat (by simp) (by simp) (by simp) (by simp [tapB]) (by simp [Tb.a,Tb.c]) ?_
  obtain ⟨cA,hcA⟩:=celA_one A o
  have hgA:=cel_get hol hcA
  simp [tapB,hol,hgA,celA_set]
  (repeat' (first|contradiction|exact .ok|apply And.intro|intro _|(refine gc (fun h=>?_) (fun h=>?_)<;>(have h':=h;(try simp at h');first|done|simp[h,h']|simp))))
  have hcc:celA (upd A o (some l)) o=[.d (.sl (l.map At.c))]:=by simp [celA,upd]
  have hgc:=cel_get hol hcc
  refine aloopT mixs (by decide) (fun f:Nat=>{ s:=mkS [(3,.ptr 27 0 0),(4,.ptr 4 0 0),(5,.ref 901 0 S.length 1),(6,.ref 902 0 S.length 1),(7,.d (.sl (ints O))),(9,.d (.int .i64 o)),(10,.d (.int .i64 o)),(11,.ref 903 0 f 1),(12,.d (.int .i64 f))],b:=mkB [(27,27,tapB L e1),(4,4,.var [.d (.sl (S.map Tb.c))]),(901,901,.varr 59 1 (seqF (celA (upd A o (some l))) S.length)),(902,902,.varr 61 1 (seqF (celR R) S.length)),(903,903,.arr 61 1 (((x.fk.take f).map fun g=>(R (tgN S g)).getD []).map rgD) false)] })
   (fun f=>f≤x.fk.length) (fun f=>x.fk.length - f) 0 (by simp)
   (sub_mkn 11 903 61 1 (by simp) (by simp) (by decide) (by decide) _ [(27,27,_),(4,4,_),(901,901,_),(902,902,_),(903,903,_)] ⟨by simp,by simp,by simp [renOf,Blk.live,tapB,cv_celA,cv_celR],by simp⟩ (by simp [renOf])) ?_
  intro f hf
  by_cases hfl:f<x.fk.length
  ·obtain ⟨g,hg⟩:∃ g,g=x.fk[f]:=⟨_,rfl⟩
   have hgg:∀ h,x.fk[f]'h=g:=fun _=>hg.symm
   have hgm:g∈x.fk:=by rw [hg]; exact List.getElem_mem hfl
   have hwf:=wrap_in (n:=(f:Int)+1) (by omega) (by omega)
   obtain ⟨ht0,ht1⟩:=hD o hol g (by rw [htab]; exact hgm)
   obtain ⟨to,hte⟩:∃ t:Nat,tgt S g=t:=⟨(tgt S g).toNat,by omega⟩
   have htg:tgN S g=to:=by unfold tgN; rw [hte]; rfl
   rw [htg] at ht1
   have htl:to<S.length:=by omega
   obtain ⟨rr,hrr,_⟩:=hpos to ht1
   have hcr:celR R to=[.d (.sl (rr.map Rg.c))]:=by simp [celR,hrr]
   have hgr:=cel_get htl hcr
   have hmf:=map_take (f:=fun g=>(R (tgN S g)).getD []) hfl
   rw [← hg,htg,hrr,Option.getD_some] at hmf
   have hml:((x.fk.take f).map fun g=>(R (tgN S g)).getD []).length=f:=by rw [List.length_map,List.length_take]; omega
   have hta:=ups (r3_target S (by omega) hF.ok.ok hol hx.symm hfl hg.symm)
   rw [place_at (show fidx (fun y:Tb=>y.n==g.t) S 0=to from hte)] at hta
   generalize ((x.fk.take f).map fun g=>(R (tgN S g)).getD [])=U at *
   have htkU:(U.map rgD).take f=U.map rgD:=List.take_of_length_le (by simp [hml])
   simp [tapB,hol,hgx,Tb.c,hfl]
   (repeat' (first|contradiction|exact .ok|apply And.intro|intro _|(refine gc (fun h=>?_) (fun h=>?_)<;>(have h':=h;(try simp at h');first|done|simp[h,h']|simp))))
   refine acallT_plain hta (by simp [schA]) ?_
   simp [htl,hgr,hml,htkU,szs f (by omega) 24 (by decide),szs (f+1) (by omega) 24 (by decide)]
   (repeat' (first|contradiction|exact .ok|apply And.intro|intro _|(refine gc (fun h=>?_) (fun h=>?_)<;>(have h':=h;(try simp at h');first|done|simp[h,h']|simp))))
   refine ⟨f+1,by omega,?_,by simp; omega⟩
   exact sub_mk _ [(27,27,_),(4,4,_),(901,901,_),(902,902,_),(903,88,_)] ⟨by simp,by simp,by simp [renOf,Blk.live,tapB,cv_celA,cv_celR,hmf,rgD],by simp⟩ (by simp [renOf,hwf])
  obtain rfl:f=x.fk.length:=by omega
  rw [List.take_length]
  have hPPl:(x.fk.map fun g=>(R (tgN S g)).getD []).length=x.fk.length:=by simp
  generalize (x.fk.map fun g=>(R (tgN S g)).getD [])=PP at *
  have htkP:(PP.map rgD).take x.fk.length=PP.map rgD:=List.take_of_length_le (by simp [hPPl])
  rcases Q with ⟨q1,q2⟩
  simp [tapB,hol,hgx,Tb.c,hgc,htkP]
  (repeat' (first|contradiction|exact .ok|apply And.intro|intro _|(refine gc (fun h=>?_) (fun h=>?_)<;>(have h':=h;(try simp at h');first|done|simp[h,h']|simp))))
  refine acallT_plain hrg (by simp [schA,hPPl,htkP]) ?_
  have herr:=hrok.err
  simp only at herr
  by_cases k1:q1=8
  ·simp [regA,k1,hPPl,htkP]
   (repeat' (first|contradiction|exact .ok|apply And.intro|intro _|(refine gc (fun h=>?_) (fun h=>?_)<;>(have h':=h;(try simp at h');first|done|simp[h,h',k1]|simp[k1]))))
  have k0:q1=0:=by omega
  subst k0
  have hqp:=hrok.pos rfl
  simp only at hqp
  have hqn:¬ (q2.length:Int)=0:=by omega
  have hqe:¬ q2=[]:=fun h=>by rw [h] at hqp; simp at hqp
  by_cases k2:300<q2.length
  ·have k2i:(300:Int)<q2.length:=by omega
   simp [regA,hqn,hqe,k2i,hPPl,htkP]
   (repeat' (first|contradiction|exact .ok|apply And.intro|intro _|(refine gc (fun h=>?_) (fun h=>?_)<;>(have h':=h;(try simp at h');first|done|simp[h,h',hqn,hqe,k2i]|simp[hqn,hqe,k2i]))))
  have k2i:¬ (300:Int)<q2.length:=by omega
  simp [regA,hqn,hqe,k2i,hPPl,htkP]
  (repeat' (first|contradiction|exact .ok|apply And.intro|intro _|(refine gc (fun h=>?_) (fun h=>?_)<;>(have h':=h;(try simp at h');first|done|simp[h,h',hqn,hqe,k2i]|simp[hqn,hqe,k2i]))))
  refine aloopT mixs (by decide) (fun k:Nat=>{ s:=mkS [(3,.ptr 27 0 0),(4,.ptr 4 0 0),(5,.ref 901 0 S.length 1),(6,.ref 902 0 S.length 1),(7,.d (.sl (ints O))),(9,.d (.int .i64 o)),(10,.d (.int .i64 o)),(15,.d (.sl (q2.map Rg.c))),(17,.d (.int .i64 k))],b:=mkB [(27,27,tapB L e1),(4,4,.var [.d (.sl (S.map Tb.c))]),(901,901,.varr 59 1 (seqF (celA (upd A o (some l))) S.length)),(902,902,.varr 61 1 (seqF (celR R) S.length))] })
   (fun k=>k≤q2.length) (fun k=>q2.length - k) 0 (by simp)
   (sub_mk _ [(27,27,_),(4,4,_),(901,901,_),(902,902,_)] ⟨by simp,by simp,by simp [renOf,Blk.live,tapB,cv_celA,cv_celR],by simp⟩ (by simp [renOf])) ?_
  intro k hk
  by_cases hkl:k<q2.length
  ·obtain ⟨r,hr⟩:∃ r,r=q2[k]:=⟨_,rfl⟩
   have hgr:∀ h,q2[k]'h=r:=fun _=>hr.symm
   obtain ⟨r1,r2,r3⟩:=hrok.tr r (by rw [hr]; exact List.getElem_mem hkl)
   have hxc:=hF.cols x hxm
   have htr:=ups (r13_truths l (by omega) hlt r.s (by omega))
   rw [← r1] at htr
   have hwk:=wrap_in (n:=(k:Int)+1) (by omega) (by omega)
   rcases r with ⟨rt,rp,rs⟩
   simp only at r1 r2 r3 htr
   clear r1
   have hr3i:(rs.length:Int)=x.cols.length:=by omega
   simp [tapB,hol,hgc,hkl,hgr,Rg.c]
   (repeat' (first|contradiction|exact .ok|apply And.intro|intro _|(refine gc (fun h=>?_) (fun h=>?_)<;>(have h':=h;(try simp at h');first|done|simp[h,h']|simp))))
   refine acallT_plain htr (by simp) ?_
   simp [tapB,hol,hgx,hkl,hgr,Rg.c,Tb.c,r3,hr3i]
   (repeat' (first|contradiction|exact .ok|apply And.intro|intro _|(refine gc (fun h=>?_) (fun h=>?_)<;>(have h':=h;(try simp at h');first|done|simp[h,h']|simp))))
   refine aloopT mixs (by decide) (fun j:Nat=>{ s:=mkS [(3,.ptr 27 0 0),(4,.ptr 4 0 0),(5,.ref 901 0 S.length 1),(6,.ref 902 0 S.length 1),(7,.d (.sl (ints O))),(9,.d (.int .i64 o)),(10,.d (.int .i64 o)),(15,.d (.sl (q2.map Rg.c))),(17,.d (.int .i64 k)),(18,.d (.sl (ints rt))),(19,.d (.int .i64 j))],b:=mkB [(27,27,tapB L e1),(4,4,.var [.d (.sl (S.map Tb.c))]),(901,901,.varr 59 1 (seqF (celA (upd A o (some l))) S.length)),(902,902,.varr 61 1 (seqF (celR R) S.length))] })
    (fun j=>j≤rt.length) (fun j=>rt.length - j) 0 (by simp)
    (sub_mk _ [(27,27,_),(4,4,_),(901,901,_),(902,902,_)] ⟨by simp,by simp,by simp [renOf,Blk.live,tapB,cv_celA,cv_celR],by simp⟩ (by simp [renOf])) ?_
   intro j hj
   by_cases hjl:j<rt.length
   ·have hwj:=wrap_in (n:=(j:Int)+1) (by omega) (by omega)
    simp [tapB,hkl,hgr,Rg.c,hjl]
    (repeat' (first|contradiction|exact .ok|apply And.intro|intro _|(refine gc (fun h=>?_) (fun h=>?_)<;>(have h':=h;(try simp at h');first|done|simp[h,h']|simp))))
    refine ⟨j+1,by omega,?_,by simp; omega⟩
    exact sub_mk _ [(27,27,_),(4,4,_),(901,901,_),(902,902,_)] ⟨by simp,by simp,by simp [renOf,Blk.live,tapB,cv_celA,cv_celR],by simp⟩ (by simp [renOf,hwj])
   obtain rfl:j=rt.length:=by omega
   simp [tapB]
   (repeat' (first|contradiction|exact .ok|apply And.intro|intro _|(refine gc (fun h=>?_) (fun h=>?_)<;>(have h':=h;(try simp at h');first|done|simp[h,h']|simp))))
   refine ⟨k+1,by omega,?_,by simp; omega⟩
   exact sub_mk _ [(27,27,_),(4,4,_),(901,901,_),(902,902,_)] ⟨by simp,by simp,by simp [renOf,Blk.live,tapB,cv_celA,cv_celR],by simp⟩ (by simp [renOf,hwk])
  obtain rfl:k=q2.length:=by omega
  obtain ⟨cR,hcR⟩:=celR_one R o
  have hgR:=cel_get hol hcR
  simp [tapB,hol,hgR,celR_set]
  (repeat' (first|contradiction|exact .ok|apply And.intro|intro _|(refine gc (fun h=>?_) (fun h=>?_)<;>(have h':=h;(try simp at h');first|done|simp[h,h',hol,hgR,celR_set]|simp[hol,hgR,celR_set]))))
  refine ⟨(o+1,upd A o (some l),upd R o (some q2),e1),⟨by simp only; omega,hstep q2 hrok (by omega) (by omega) hlt,by simp only; omega⟩,?_,by simp; omega⟩
  exact sub_mk _ [(27,27,_),(4,4,_),(901,901,_),(902,902,_)] ⟨by simp,by simp,by simp [renOf,Blk.live,tapB,cv_celA,cv_celR],by simp⟩ (by simp [renOf,hwo])
 obtain rfl:o=S.length:=by omega
 have hgood:=ups (t_good L S hF 5 (by omega) e (by omega))
 have hgk:=good_ok L hF 5 e (by omega)
 have hcov:=fun k n hk hn=>cov_some L hF hD hPl hI e k n hk hn
 obtain ⟨J,e2,hJ⟩:∃ J e2,goodG L S 5 e=(J,e2):=⟨_,_,rfl⟩
 have hJl:J.length=S.length:=by
  have:(goodG L S 5 e).1.length=S.length:=by unfold goodG; simp only [seqF_len]
  rwa [hJ] at this
 rw [hJ] at hgood hgk hcov
 simp only at hgood hgk hcov
 have hof:=cinv_of hI (by omega) (fun k hk=>by
  have hx:tabO S k∈S:=by unfold tabO; rw [List.getElem?_eq_getElem hk]; exact List.getElem_mem hk
  exact (hF.fk _ hx).1) (I:=J) ⟨hgk.1,fun t ht=>⟨by have:=(hgk.2 t ht).1; omega,fun r hr=>by have:=(hgk.2 t ht).2 r hr; omega⟩⟩
 have h1J:=fun t r=>p_Of S hF hD J (outL R S.length) (outL A S.length) hof t r
 have hl1:=outL_len A S.length
 have hl2:=outL_len R S.length
 have ht1:((outL A S.length).map atD).take S.length=(outL A S.length).map atD:=List.take_of_length_le (by simp [hl1])
 have ht2:((outL R S.length).map rgD).take S.length=(outL R S.length).map rgD:=List.take_of_length_le (by simp [hl2])
 simp [tapB,hOl]
 (repeat' (first|contradiction|exact .ok|apply And.intro|intro _|(refine gc (fun h=>?_) (fun h=>?_)<;>(have h':=h;(try simp at h');first|done|simp[h,h']|simp))))
 simp [tapB] at hgood
 refine acallT_hand [27] hgood (by simp) (by simp) (by simp) (by simp [tapB,ints]) (by simp [schA]) ?_
 simp [instA]
 (repeat' (first|contradiction|exact .ok|apply And.intro|intro _|(refine gc (fun h=>?_) (fun h=>?_)<;>(have h':=h;(try simp at h');first|done|simp[h,h']|simp))))
 refine aloopT mixs (by decide) (fun k:Nat=>{ s:=mkS [(4,.ptr 4 0 0),(5,.d (.sl ((outL A S.length).map atD))),(6,.d (.sl ((outL R S.length).map rgD))),(20,.ptr 20 0 0),(21,.d (.int .i64 k))],b:=mkB [(4,4,.var [.d (.sl (S.map Tb.c))]),(20,20,.var [.d (.sl (J.map tabD))])] })
  (fun k=>k≤J.length) (fun k=>J.length - k) 0 (by simp)
  ((sub_celA 901 (M:=S.length) (A:=A) (ety:=59) (by simp [upd])).trans ((sub_celR 902 (M:=S.length) (R:=R) (ety:=61) (by simp [upd])).trans (sub_mk _ [(4,4,_),(20,20,_)] ⟨by simp,by simp,by simp [renOf,Blk.live,upd],by simp⟩ (by simp [renOf,upd,hl1,hl2,ht1,ht2])))) ?_
 clear hl1 hl2 ht1 ht2 hof hJ
 generalize outL R S.length=RL at *
 generalize outL A S.length=AL at *
 intro k hk
 by_cases hkl:k<J.length
 ·obtain ⟨u,hu⟩:∃ u,u=J[k]:=⟨_,rfl⟩
  have hgu:∀ h,J[k]'h=u:=fun _=>hu.symm
  have hul:=(hgk.2 u (by rw [hu]; exact List.getElem_mem hkl)).1
  have hku:J[k]?.getD []=u:=by rw [List.getElem?_eq_getElem hkl,← hu]; rfl
  have hwk:=wrap_in (n:=(k:Int)+1) (by omega) (by omega)
  simp [hkl]
  (repeat' (first|contradiction|exact .ok|apply And.intro|intro _|(refine gc (fun h=>?_) (fun h=>?_)<;>(have h':=h;(try simp at h');first|done|simp[h,h']|simp))))
  refine aloopT mixs (by decide) (fun n:Nat=>{ s:=mkS [(4,.ptr 4 0 0),(5,.d (.sl (AL.map atD))),(6,.d (.sl (RL.map rgD))),(20,.ptr 20 0 0),(21,.d (.int .i64 k)),(22,.d (.int .i64 n))],b:=mkB [(4,4,.var [.d (.sl (S.map Tb.c))]),(20,20,.var [.d (.sl (J.map tabD))])] })
   (fun n=>n≤u.length) (fun n=>u.length - n) 0 (by simp) (sub_mk _ [(4,4,_),(20,20,_)] ⟨by simp,by simp,by simp [renOf,Blk.live],by simp⟩ (by simp [renOf])) ?_
  intro n hn
  by_cases hnl:n<u.length
  ·have hwn:=wrap_in (n:=(n:Int)+1) (by omega) (by omega)
   have g1:=h1J k n
   obtain ⟨q,hq⟩:=hcov k n (by omega) (by rw [hku]; exact hnl)
   rw [hq] at g1
   simp [hkl,hgu,tabD,hnl]
   (repeat' (first|contradiction|exact .ok|apply And.intro|intro _|(refine gc (fun h=>?_) (fun h=>?_)<;>(have h':=h;(try simp at h');first|done|simp[h,h']|simp))))
   refine acallT_plain g1 (by simp [schA,instA]) ?_
   simp [pairO]
   (repeat' (first|contradiction|exact .ok|apply And.intro|intro _|(refine gc (fun h=>?_) (fun h=>?_)<;>(have h':=h;(try simp at h');first|done|simp[h,h']|simp))))
   refine ⟨n+1,by omega,?_,by simp; omega⟩
   exact sub_mk _ [(4,4,_),(20,20,_)] ⟨by simp,by simp,by simp [renOf,Blk.live],by simp⟩ (by simp [renOf,hwn])
  obtain rfl:n=u.length:=by omega
  simp [hkl,hgu,tabD]
  (repeat' (first|contradiction|exact .ok|apply And.intro|intro _|(refine gc (fun h=>?_) (fun h=>?_)<;>(have h':=h;(try simp at h');first|done|simp[h,h']|simp))))
  refine ⟨k+1,by omega,?_,by simp; omega⟩
  exact sub_mk _ [(4,4,_),(20,20,_)] ⟨by simp,by simp,by simp [renOf,Blk.live],by simp⟩ (by simp [renOf,hwk])
 obtain rfl:k=J.length:=by omega
 simp
 all_goals exact gz
end Go.Proofs.Tryz
