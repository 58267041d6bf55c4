import Derived.Test.YtklnfckiabhceaaGreatDoorKOdr
import Derived.Test.YtklnfckiabhceaaGreatDoorKGoo
set_option linter.all false
namespace Go.Proofs.Tryz
open Go.Ab
set_option maxRecDepth 100000
set_option maxHeartbeats 8000000
theorem regS_ready (S:List Tb) (t:Int) (l:List At) (P:List (List Rg)):regS S t l P=if readyG S t l P.length=true then regG (tabO S t.toNat) l P else (1,[]):=by
 unfold regS readyG
 simp only [Bool.and_eq_true,decide_eq_true_eq]
def minG:Nat→List (List Rg)→Nat
 | n,[]=>n
 | n,p::P=>minG (min (n*p.length) 2001) P
theorem minG_big:∀ {P:List (List Rg)} {n:Nat},emptyP P=false→n=2001→minG n P=2001
 | [],n,_,h=>h
 | p::P,n,he,h=>by
   unfold emptyP at he
   rw [List.any_cons,Bool.or_eq_false_iff] at he
   have hp:¬ p.length=0:=by simpa using he.1
   have:n*1≤n*p.length:=Nat.mul_le_mul_left _ (by omega)
   rw [minG]
   exact minG_big he.2 (by omega)
theorem minG_lim:∀ {P:List (List Rg)} {n:Nat},emptyP P=false→n≤2000→(minG n P≤2000↔limG n P=true)
 | [],n,_,h=>by simp [minG,limG,h]
 | p::P,n,he,h=>by
   have he0:=he
   unfold emptyP at he
   rw [List.any_cons,Bool.or_eq_false_iff] at he
   rw [minG,limG]
   by_cases hc:0<n∧2000 / n<p.length
   ·rw [if_pos hc]
    have:2000<n*p.length:=by
     have:=Nat.div_lt_iff_lt_mul (k:=n) (x:=2000) (y:=p.length) hc.1
     have h2:=this.1 hc.2
     rwa [Nat.mul_comm] at h2
    rw [minG_big he.2 (by omega)]
    simp
   ·rw [if_neg hc]
    have:n*p.length≤2000:=by
     by_cases hn:0<n
     ·have h2:p.length≤2000 / n:=by omega
      have:=(Nat.le_div_iff_mul_le hn).1 h2
      rwa [Nat.mul_comm] at this
     ·have:n=0:=by omega
      subst this
      simp
    rw [show min (n*p.length) 2001=n*p.length from by omega]
    exact minG_lim he.2 this
theorem fine_any {ch:List Ex} {r:List V}:fineR ch r=!(ch.any (chkB r)):=by
 unfold fineR chkB
 rw [List.not_any_eq_all_not]
 rfl
theorem p13_regions (S:List Tb) (h:FillOk S) (t:Int) (l:List At) (hl:l.length≤12) (P:List (List Rg)) (hP:∀ p∈P,p.length≤2000) :
  Cf Es 18 [schA S,.d (.int .i64 t),.d (.sl (l.map At.c)),.d (.sl (P.map rgD))] [] (regA (regS S t l P)) []:=by
 refine cf_intro mixs (fn:=Tryz.f18) (by kernel_rfl) rfl (by kernel_rfl) (by decide) (by simp) ?_
 have hrd:=p13_ready S h t l (by omega) (P.map rgD)
 rw [List.length_map] at hrd
 rw [regS_ready]
 cases hR:readyG S t l P.length with
 | false =>
   rw [hR] at hrd
   rw [if_neg (by simp)]
   simp [schA]
   (repeat' (first|contradiction|exact .ok|apply And.intro|intro _|(refine gc (fun h=>?_) (fun h=>?_)<;>(have h':=h;(try simp at h');first|done|simp[h,h']|simp))))
   refine acallT_plain hrd (by simp [schA]) ?_
   simp [regA]
   all_goals exact gz
 | true =>
 rw [hR] at hrd
 rw [if_pos rfl]
 unfold readyG at hR
 simp only [Bool.and_eq_true,decide_eq_true_eq] at hR
 obtain ⟨hpl,h0,hlt,hS,hPf⟩:=hR
 obtain ⟨k,rfl⟩:∃ k:Nat,t=k:=⟨t.toNat,by omega⟩
 rw [Int.toNat_natCast] at hS hPf ⊢
 have hk:k<S.length:=by omega
 obtain ⟨x,hx⟩:∃ u,u=S[k]:=⟨_,rfl⟩
 have hgx:∀ h,S[k]'h=x:=fun _=>hx.symm
 have htab:tabO S k=x:=by unfold tabO; rw [List.getElem?_eq_getElem hk,← hx]; rfl
 have hxm:x∈S:=by rw [hx]; exact List.getElem_mem hk
 have hxo:=h.ok.ok x hxm
 have hxc:=h.cols x hxm
 have hxt:=h.ty x hxm
 have hxe:=h.ok.ch x hxm
 have hxf:=(h.fk x hxm).1
 rw [htab] at hS hPf ⊢
 have hPl:P.length≤8:=by omega
 have hsf:=fun a ha=>suits_facts (suit_suits hS a ha)
 have hAt:∀ a∈l,a.v.t.length≤200:=fun a ha=>(hsf a ha).1.1
 have hrw:=p13_rows x hxo hxc hxt l hl (fun a ha=>(hsf a ha).2) hAt (fun a ha=>(hsf a ha).1.2)
 have hche:=hxo.ch
 obtain ⟨G,hG⟩:∃ G,G=regG x l P:=⟨_,rfl⟩
 rw [← hG]
 unfold regG at hG
 obtain ⟨T,hT⟩:∃ T,T=rowsR (clsR x l) x.cols.length 0 [List.replicate x.cols.length nulV]:=⟨_,rfl⟩
 rw [← hT] at hG hrw
 simp [schA]
 (repeat' (first|contradiction|exact .ok|apply And.intro|intro _|(refine gc (fun h=>?_) (fun h=>?_)<;>(have h':=h;(try simp at h');first|done|simp[h,h']|simp))))
 refine acallT_plain hrd (by simp [schA]) ?_
 simp [hk,hgx,Tb.c]
 (repeat' (first|contradiction|exact .ok|apply And.intro|intro _|(refine gc (fun h=>?_) (fun h=>?_)<;>(have h':=h;(try simp at h');first|done|simp[h,h']|simp))))
 refine acallT_plain hrw (by simp [Tb.a,Tb.c]) ?_
 cases T with
 | none =>
   simp only at hG
   subst hG
   simp [rowsA,regA]
   all_goals exact gz
 | some R =>
 simp only at hG
 have hRl:=rowsR_len (by simp) hT.symm
 have hRr:=rowsR_row (n:=x.cols.length) (by simp) hT.symm
 clear hT hrw hrd hsf
 obtain ⟨OT,hOT⟩:∃ OT,OT=ownG x.ch l R []:=⟨_,rfl⟩
 rw [← hOT] at hG
 have hOTl:OT.length≤2000:=by have:=ownG_len (ch:=x.ch) (l:=l) (R:=R) (O:=[]); rw [← hOT] at this; simp at this; omega
 have hOTk:∀ o∈OT,OwnOk x.cols.length l o:=by rw [hOT]; exact ownG_ok hRr (by simp)
 simp [rowsA]
 (repeat' (first|contradiction|exact .ok|apply And.intro|intro _|(refine gc (fun h=>?_) (fun h=>?_)<;>(have h':=h;(try simp at h');first|done|simp[h,h']|simp))))
 refine aloopT mixs (by decide) (fun y:Nat×List Rg×Bool=>{ s:=mkS [(2,.d (.sl (l.map At.c))),(3,.d (.sl (P.map rgD))),(10,.ptr 10 0 0),(13,.ref 901 0 y.2.1.length 3),(46,.d (.sl (R.map rowD))),(47,.d (.int .i64 R.length)),(48,.d (.int .i64 y.1))],b:=mkB [(10,10,.var (x.c.map AV.d)),(901,901,.arr 73 3 (y.2.1.map Rg.c) y.2.2)] })
  (fun y=>y.1≤R.length∧ownG x.ch l (R.drop y.1) y.2.1=OT∧y.2.1.length≤y.1∧∀ o∈y.2.1,OwnOk x.cols.length l o) (fun y=>R.length - y.1) (0,[],false) ⟨by simp,by simp [hOT],by simp,by simp⟩
  (sub_mkn 13 901 73 3 (by simp) (by simp) (by decide) (by decide) _ [(10,10,_),(901,901,_)] ⟨by simp,by simp,by simp [renOf,Blk.live,Tb.c],by simp⟩ (by simp [renOf])) ?_
 clear hOT
 rintro ⟨i,O,fz⟩ ⟨hi,hO,hOl,hOk⟩
 simp only at hi hO hOl hOk
 by_cases hil:i<R.length
 ·obtain ⟨r,hr⟩:∃ r,r=R[i]:=⟨_,rfl⟩
  have hgr:∀ h,R[i]'h=r:=fun _=>hr.symm
  have hrl:=hRr r (by rw [hr]; exact List.getElem_mem hil)
  rw [List.drop_eq_getElem_cons hil,← hr,ownG] at hO
  have hwi:=wrap_in (n:=(i:Int)+1) (by omega) (by omega)
  have hos:=ownS_ok (ch:=x.ch) (l:=l) hrl hOk
  have hosl:=ownS_len (ch:=x.ch) (l:=l) (O:=O) (r:=r)
  have htr:=upo (p13_truths l (by omega) hAt r (by omega))
  have hck:=upo (g_chkC x.ch (by omega) (fun e he=>(hxe e he).few) r (by omega))
  have hXl:(trG r l).length=l.length:=by simp [trG]
  have htc:=ups (g_trC O (by omega) (fun o ho=>by rw [(hOk o ho).1]; omega) (trG r l))
  unfold ownS at hO hos hosl
  rw [fine_any] at hO hos hosl
  generalize x.ch.any (chkB r)=F at *
  generalize (O.any fun o=>o.t==trG r l)=Q at *
  generalize trG r l=X at *
  simp [hil,hgr,rowD]
  (repeat' (first|contradiction|exact .ok|apply And.intro|intro _|(refine gc (fun h=>?_) (fun h=>?_)<;>(have h':=h;(try simp at h');first|done|simp[h,h']|simp))))
  refine acallT_plain htr (by simp) ?_
  simp [Tb.c]
  (repeat' (first|contradiction|exact .ok|apply And.intro|intro _|(refine gc (fun h=>?_) (fun h=>?_)<;>(have h':=h;(try simp at h');first|done|simp[h,h']|simp))))
  refine acallT_hand [15] hck (by simp) (by simp) (by simp) (by simp) (by simp) ?_
  cases F with
  | true =>
    simp only [Bool.not_true,Bool.false_and,Bool.false_eq_true,if_false] at hO hos hosl
    simp
    (repeat' (first|contradiction|exact .ok|apply And.intro|intro _|(refine gc (fun h=>?_) (fun h=>?_)<;>(have h':=h;(try simp at h');first|done|simp[h,h']|simp))))
    refine ⟨(i+1,O,fz),⟨by simp only; omega,hO,by simp only; omega,hOk⟩,?_,by simp; omega⟩
    refine sub_mk _ [(10,10,_),(901,901,_)] ⟨by simp,by simp,by simp [renOf,Blk.live,Tb.c],by simp⟩ (by simp [renOf,hwi])
  | false =>
    simp
    (repeat' (first|contradiction|exact .ok|apply And.intro|intro _|(refine gc (fun h=>?_) (fun h=>?_)<;>(have h':=h;(try simp at h');first|done|simp[h,h']|simp))))
    refine acallT_hand [16] htc (by simp) (by simp) (by simp) (by simp) (by simp) ?_
    cases Q with
    | true =>
      simp only [Bool.not_true,Bool.and_false,Bool.false_eq_true,if_false] at hO hos hosl
      simp
      (repeat' (first|contradiction|exact .ok|apply And.intro|intro _|(refine gc (fun h=>?_) (fun h=>?_)<;>(have h':=h;(try simp at h');first|done|simp[h,h']|simp))))
      refine ⟨(i+1,O,true),⟨by simp only; omega,hO,by simp only; omega,hOk⟩,?_,by simp; omega⟩
      refine sub_mk _ [(10,10,_),(901,901,_)] ⟨by simp,by simp,by simp [renOf,Blk.live,Tb.c],by simp⟩ (by simp [renOf,hwi])
    | false =>
      simp only [Bool.not_false,Bool.and_self,if_true] at hO hos hosl
      have htk:(O.map Rg.c).take O.length=O.map Rg.c:=List.take_of_length_le (by simp)
      simp [htk,szs O.length (by omega) 72 (by decide),szs (O.length+1) (by omega) 72 (by decide)]
      (repeat' (first|contradiction|exact .ok|apply And.intro|intro _|(refine gc (fun h=>?_) (fun h=>?_)<;>(have h':=h;(try simp at h');first|done|simp[h,h']|simp))))
      refine ⟨(i+1,O++[⟨X,[],r⟩],true),⟨by simp only; omega,hO,by simp; omega,hos⟩,?_,by simp; omega⟩
      refine sub_mk _ [(10,10,_),(901,72,_)] ⟨by simp,by simp,by simp [renOf,Blk.live,Tb.c,Rg.c,ints],by simp⟩ (by simp [renOf,hwi])
 obtain rfl:i=R.length:=by omega
 rw [List.drop_length,ownG] at hO
 subst hO
 clear hOl hOk
 simp
 (repeat' (first|contradiction|exact .ok|apply And.intro|intro _|(refine gc (fun h=>?_) (fun h=>?_)<;>(have h':=h;(try simp at h');first|done|simp[h,h']|simp))))
 refine aloopT mixs (by decide) (fun y:Nat×Nat=>{ s:=mkS [(3,.d (.sl (P.map rgD))),(13,.d (.sl (O.map Rg.c))),(18,.d (.int .i64 y.2)),(76,.d (.sl (P.map rgD))),(77,.d (.int .i64 P.length)),(78,.d (.int .i64 y.1))],b:=mkB [] })
  (fun y=>y.1≤P.length∧y.2≤2001∧minG y.2 (P.drop y.1)=minG O.length P) (fun y=>P.length - y.1) (0,O.length) ⟨by simp,by simp only; omega,by simp⟩ (sub_mk _ [] .nil (by simp [renOf])) ?_
 rintro ⟨i,n⟩ ⟨hi,hn,hL⟩
 simp only at hi hn hL
 by_cases hil:i<P.length
 ·obtain ⟨p,hp⟩:∃ p,p=P[i]:=⟨_,rfl⟩
  have hgp:∀ h,P[i]'h=p:=fun _=>hp.symm
  rw [List.drop_eq_getElem_cons hil,← hp,minG] at hL
  have hpl2:=hP p (by rw [hp]; exact List.getElem_mem hil)
  have hwi:=wrap_in (n:=(i:Int)+1) (by omega) (by omega)
  have hprod:n*p.length≤2001*2000:=Nat.mul_le_mul hn hpl2
  have hm0:(n:Int)*p.length=((n*p.length:Nat):Int):=by rw [Int.natCast_mul]
  have hwm:=wrap_in (n:=((n*p.length:Nat):Int)) (by omega) (by omega)
  rw [← hm0] at hwm
  obtain ⟨q,hq⟩:∃ q,q=n*p.length:=⟨_,rfl⟩
  rw [← hq] at hL hm0
  have hwq:=wrap_in (n:=(q:Int)) (by omega) (by omega)
  have hmin:(min (q:Int) 2001)=((min q 2001:Nat):Int):=by omega
  by_cases hb:q<2001
  ·have hbi:(q:Int)<2001:=by omega
   have hbn:¬ (2001:Int)<q:=by omega
   have hmq:min q 2001=q:=by omega
   rw [hmq] at hL
   simp [hil,hgp,rgD,hwm,hm0,hwq,hbi,hbn]
   (repeat' (first|contradiction|exact .ok|apply And.intro|intro _|(refine gc (fun h=>?_) (fun h=>?_)<;>(have h':=h;(try simp at h');first|done|simp[h,h',hbi,hbn]|simp[hbi,hbn]))))
   refine ⟨(i+1,q),⟨by simp only; omega,by simp only; omega,hL⟩,?_,by simp; omega⟩
   exact sub_mk _ [] .nil (by simp [renOf,hwi,hwm,hm0,hwq,hbi,hbn])
  ·have hbi:¬ (q:Int)<2001:=by omega
   have hmq:min q 2001=2001:=by omega
   rw [hmq] at hL
   simp [hil,hgp,rgD,hwm,hm0,hwq,hbi]
   (repeat' (first|contradiction|exact .ok|apply And.intro|intro _|(refine gc (fun h=>?_) (fun h=>?_)<;>(have h':=h;(try simp at h');first|done|simp[h,h',hbi]|simp[hbi]))))
   refine ⟨(i+1,2001),⟨by simp only; omega,by simp,hL⟩,?_,by simp; omega⟩
   exact sub_mk _ [] .nil (by simp [renOf,hwi,hwm,hm0,hwq,hbi]; try omega)
 obtain rfl:i=P.length:=by omega
 rw [List.drop_length,minG] at hL
 subst hL
 have hem:=ups (g_empC P (by omega))
 rw [show (P.any fun p:List Rg=>p.length==0)=emptyP P from rfl] at hem
 unfold endR at hG
 cases hE:emptyP P with
 | true =>
   rw [hE] at hem
   rw [hE,if_pos rfl] at hG
   subst hG
   simp
   (repeat' (first|contradiction|exact .ok|apply And.intro|intro _|(refine gc (fun h=>?_) (fun h=>?_)<;>(have h':=h;(try simp at h');first|done|simp[h,h']|simp))))
   refine acallT_plain hem (by simp) ?_
   simp [regA]
   all_goals exact gz
 | false =>
 rw [hE] at hem
 rw [hE,if_neg (by simp)] at hG
 have hml:=minG_lim hE hOTl
 cases hLm:limG O.length P with
 | false =>
   rw [hLm,if_neg (by simp)] at hG
   subst hG
   have hbg:¬ minG O.length P≤2000:=fun e=>by rw [hml,hLm] at e; cases e
   have hbi:(2000:Int)<minG O.length P:=by omega
   simp
   (repeat' (first|contradiction|exact .ok|apply And.intro|intro _|(refine gc (fun h=>?_) (fun h=>?_)<;>(have h':=h;(try simp at h');first|done|simp[h,h']|simp))))
   refine acallT_plain hem (by simp) ?_
   simp [hbi,regA]
   (repeat' (first|contradiction|exact .ok|apply And.intro|intro _|(refine gc (fun h=>?_) (fun h=>?_)<;>(have h':=h;(try simp at h');first|done|simp[h,h',hbi]|simp[hbi]))))
 | true =>
 rw [hLm,if_pos rfl] at hG
 have hbg:minG O.length P≤2000:=hml.2 hLm
 have hbi:¬ (2000:Int)<minG O.length P:=by omega
 simp
 (repeat' (first|contradiction|exact .ok|apply And.intro|intro _|(refine gc (fun h=>?_) (fun h=>?_)<;>(have h':=h;(try simp at h');first|done|simp[h,h']|simp))))
 refine acallT_plain hem (by simp) ?_
 simp [hbi]
 (repeat' (first|contradiction|exact .ok|apply And.intro|intro _|(refine gc (fun h=>?_) (fun h=>?_)<;>(have h':=h;(try simp at h');first|done|simp[h,h',hbi]|simp[hbi]))))
 refine aloopT mixs (by decide) (fun y:Nat×List Rg=>{ s:=mkS [(13,.d (.sl (y.2.map Rg.c))),(92,.d (.sl (P.map rgD))),(93,.d (.int .i64 P.length)),(94,.d (.int .i64 y.1))],b:=mkB [] })
  (fun y=>y.1≤P.length∧crossG y.2 (P.drop y.1)=crossG O P∧y.2.length≤2000∧limG y.2.length (P.drop y.1)=true∧∀ r∈y.2,r.t.length≤12∧r.p.length≤y.1∧r.s.length≤20) (fun y=>P.length - y.1) (0,O) ⟨by simp,by simp,hOTl,by simpa using hLm,fun r hr=>by obtain ⟨h1,h2,h3⟩:=hOTk r hr; rw [h1,h2,h3]; simp; omega⟩ (sub_mk _ [] .nil (by simp)) ?_
 obtain ⟨Z,hZ⟩:∃ Z,Z=crossG O P:=⟨_,rfl⟩
 rw [← hZ] at hG ⊢
 clear hZ hml hbg hbi hLm hem hOTl hOTk
 rintro ⟨i,O⟩ ⟨hi,hT,hO,hL,hp⟩
 simp only at hi hT hO hL hp
 by_cases hlt:i<P.length
 ·obtain ⟨p,hpe⟩:∃ p,p=P[i]:=⟨_,rfl⟩
  have hgp:∀ h,P[i]'h=p:=fun _=>hpe.symm
  rw [List.drop_eq_getElem_cons hlt,← hpe] at hL hT
  rw [crossG] at hT
  obtain ⟨hL1,hL2⟩:=limG_step hL
  have hL3:=hL2 hO
  have hw:=wrap_in (n:=(i:Int)+1) (by omega) (by omega)
  have hml:=mulP_len p.length O
  simp [hlt,hgp,rgD]
  (repeat' (first|contradiction|exact .ok|apply And.intro|intro _|(refine gc (fun h=>?_) (fun h=>?_)<;>(have h':=h;(try simp at h');first|done|simp[h,h']|simp))))
  refine aloopT mixs (by decide) (fun k:Nat=>{ s:=mkS [(22,.d (.sl (p.map Rg.c))),(23,.ref 900 0 (k*p.length) 3),(92,.d (.sl (P.map rgD))),(93,.d (.int .i64 P.length)),(94,.d (.int .i64 i)),(98,.d (.sl (O.map Rg.c))),(99,.d (.int .i64 O.length)),(100,.d (.int .i64 k))],b:=mkB [(900,900,.arr 73 3 ((mulP p.length (O.take k)).map Rg.c) false)] }) (fun k=>k≤O.length) (fun k=>O.length - k) 0 (by simp)
   (sub_mkn 23 900 73 3 (by simp) (by simp) (by decide) (by decide) _ [(900,900,_)] ⟨by simp,by simp,by simp [renOf,Blk.live,mulP],by simp⟩ (by simp [renOf,rgD])) ?_
  intro k hk
  by_cases hkl:k<O.length
  ·obtain ⟨r,hr⟩:∃ r,r=O[k]:=⟨_,rfl⟩
   have hgr:∀ h,O[k]'h=r:=fun _=>hr.symm
   have hrp:=hp r (by rw [hr]; exact List.getElem_mem hkl)
   have hmt:=mulP_take (n:=p.length) hkl
   have hmk:=mulP_len p.length (O.take k)
   rw [List.length_take,Nat.min_eq_left (by omega)] at hmk
   have hkm:(k+1)*p.length≤O.length*p.length:=Nat.mul_le_mul_right _ hkl
   rw [Nat.add_mul,Nat.one_mul] at hkm
   rw [← hr] at hmt
   have hwk:=wrap_in (n:=(k:Int)+1) (by omega) (by omega)
   have hkp:(k+1)*p.length=k*p.length+p.length:=by rw [Nat.add_mul,Nat.one_mul]
   have hct:=ups (s_cloneI r.t (by omega))
   have hcp:=ups (s_cloneI r.p (by omega))
   have hcs:=ups (s_cloneV r.s (by omega))
   obtain ⟨K,hK⟩:∃ K,K=k*p.length:=⟨_,rfl⟩
   rw [← hK] at hmk hkm hkp ⊢
   generalize hM:mulP p.length (O.take k)=M at *
   simp [hkl,hgr,Rg.c]
   (repeat' (first|contradiction|exact .ok|apply And.intro|intro _|(refine gc (fun h=>?_) (fun h=>?_)<;>(have h':=h;(try simp at h');first|done|simp[h,h']|simp))))
   refine aloopT mixs (by decide) (fun j:Nat=>{ s:=mkS [(22,.d (.sl (p.map Rg.c))),(23,.ref 900 0 (K+j) 3),(25,.ptr 25 0 0),(92,.d (.sl (P.map rgD))),(93,.d (.int .i64 P.length)),(94,.d (.int .i64 i)),(98,.d (.sl (O.map Rg.c))),(99,.d (.int .i64 O.length)),(100,.d (.int .i64 k)),(104,.d (.sl (p.map Rg.c))),(105,.d (.int .i64 p.length)),(106,.d (.int .i64 j))],b:=mkB [(25,25,.var (r.c.map AV.d)),(900,900,.arr 73 3 ((M++upL r.add j).map Rg.c) false)] }) (fun j=>j≤p.length) (fun j=>p.length - j) 0 (by simp)
    (sub_mk _ [(25,25,_),(900,900,_)] ⟨by simp,by simp,by simp [renOf,Blk.live,upL,Rg.c],by simp⟩ (by simp [renOf])) ?_
   intro j hj
   by_cases hjl:j<p.length
   ·have hwj:=wrap_in (n:=(j:Int)+1) (by omega) (by omega)
    have hul:=upL_len r.add j
    have hus:upL r.add (j+1)=upL r.add j++[r.add j]:=rfl
    generalize upL r.add j=U at *
    have htk2:(M.map Rg.c++U.map Rg.c).take (K+j)=M.map Rg.c++U.map Rg.c:=List.take_of_length_le (by simp; omega)
    have hpi:(∀ x,x∈ints r.p→x.length=1)=True:=eq_true fun x hx=>ints_one r.p x hx
    have htp:List.take (r.p.length+1) (ints r.p++[[.int .i64 (j:Int)]])=ints r.p++[[.int .i64 (j:Int)]]:=List.take_of_length_le (by simp)
    simp [hjl,Rg.c]
    (repeat' (first|contradiction|exact .ok|apply And.intro|intro _|(refine gc (fun h=>?_) (fun h=>?_)<;>(have h':=h;(try simp at h');first|done|simp[h,h']|simp))))
    refine acallT_new [] hct (by simp) (by simp) (by simp) (by simp) (by simp) (by simp) (by simp) ?_
    simp [Rg.c]
    (repeat' (first|contradiction|exact .ok|apply And.intro|intro _|(refine gc (fun h=>?_) (fun h=>?_)<;>(have h':=h;(try simp at h');first|done|simp[h,h']|simp))))
    refine acallT_new [] hcp (by simp) (by simp) (by simp) (by simp) (by simp) (by simp) (by simp) ?_
    simp [Rg.c,hpi,htp,szs r.p.length (by omega) 8 (by decide),szs (r.p.length+1) (by omega) 8 (by decide)]
    (repeat' (first|contradiction|exact .ok|apply And.intro|intro _|(refine gc (fun h=>?_) (fun h=>?_)<;>(have h':=h;(try simp at h');first|done|simp[h,h']|simp))))
    refine acallT_new [] hcs (by simp) (by simp) (by simp) (by simp) (by simp) (by simp) (by simp) ?_
    simp [Rg.c,hpi,htk2,hmk,hul,htp,szs r.p.length (by omega) 8 (by decide),szs (r.p.length+1) (by omega) 8 (by decide),szs (K+j) (by omega) 72 (by decide),szs (K+j+1) (by omega) 72 (by decide)]
    (repeat' (first|contradiction|exact .ok|apply And.intro|intro _|(refine gc (fun h=>?_) (fun h=>?_)<;>(have h':=h;(try simp at h');first|done|simp[h,h']|simp))))
    refine ⟨j+1,by omega,?_,by simp; omega⟩
    refine sub_mk _ [(25,25,_),(900,124,_)] ⟨by simp,by simp,by simp [renOf,Blk.live,hus,Rg.c,Rg.add,ints],by simp⟩ (by simp [renOf,hwj]; omega)
   obtain rfl:j=p.length:=by omega
   simp
   (repeat' (first|contradiction|exact .ok|apply And.intro|intro _|(refine gc (fun h=>?_) (fun h=>?_)<;>(have h':=h;(try simp at h');first|done|simp[h,h']|simp))))
   refine ⟨k+1,by omega,?_,by simp; omega⟩
   refine sub_mk _ [(900,900,_)] ⟨by simp,by simp,by simp [renOf,Blk.live,hmt],by simp⟩ (by simp [renOf,hwk,hkp])
  obtain rfl:k=O.length:=by omega
  rw [List.take_length]
  simp
  (repeat' (first|contradiction|exact .ok|apply And.intro|intro _|(refine gc (fun h=>?_) (fun h=>?_)<;>(have h':=h;(try simp at h');first|done|simp[h,h']|simp))))
  refine ⟨(i+1,mulP p.length O),⟨by simp only; omega,hT,by simp only; omega,by simp only; rw [hml]; exact hL1,?_⟩,?_,by simp; omega⟩
  ·intro r hr
   simp only at hr ⊢
   unfold mulP at hr
   obtain ⟨q,hq,hr⟩:=List.mem_flatMap.1 hr
   obtain ⟨j,_,rfl⟩:=upL_mem hr
   have:=hp q hq
   simp only [Rg.add,List.length_append,List.length_singleton]
   omega
  ·refine sub_mk _ [] .nil (by simp [hw,renOf,hml]; try exact List.take_of_length_le (by simp [hml]))
 obtain rfl:i=P.length:=by omega
 rw [List.drop_length,crossG] at hT
 subst hT hG
 simp [regA]
 all_goals exact gz
end Go.Proofs.Tryz
