import Derived.Test.YtklnfckiabhceaaGreatDoorKGoo
import Derived.Test.YtklnfckiabhceaaGreatDoorKSml
import Derived.Test.YtklnfckiabhceaaGreatDoorKRgc
set_option linter.all false
namespace Go.Proofs.Tryz
open Go.Ab
set_option maxRecDepth 100000
set_option maxHeartbeats 8000000
@[simp] theorem all_rowD (l:List (List V)):((l.map rowD).all fun x=>x.length==1)=true:=by simp [rowD]
theorem bool_nf {F a b:Bool} (h:(F&&!a)=false):(F&&!(a||b))=false:=by cases F <;> cases a <;> simp_all
theorem bool_nt {F a b:Bool} (h:(F&&!a)=true):(F&&!(a||b))=!b:=by cases F <;> cases a <;> simp_all
def rgF (x:Tb) (l:List At) (P:List (List Rg)) (R:List (List V)) (c:Nat) (C:List V) (i:Nat):St :=
 { s:=mkS [(2,.d (.sl (l.map At.c))),(3,.d (.sl (P.map rgD))),(10,.ptr 10 0 0),(11,.d (.sl (R.map rowD))),(12,.d (.int .i64 c)),(13,.d (.sl (C.map V.c))),(14,.ref 900 0 (i*C.length) 1),(15,.d (.int .i64 i))],b:=mkB [(10,10,.var (x.c.map AV.d)),(900,900,.arr 71 1 ((mulR C c (R.take i)).map rowD) false)] }
theorem r13_regions (S:List Tb) (h:FillOk S) (t:Int) (l:List At) (hl:l.length≤12) (P:List (List Rg)) :
  Cf Es 20 [schA S,.d (.int .i64 t),.d (.sl (l.map At.c)),.d (.sl (P.map rgD))] [] (regA (regS S t l P)) []:=by
 refine cf_intro mixs (fn:=Tryz.f20) (by kernel_rfl) rfl (by kernel_rfl) (by decide) (by simp) ?_
 have hpl:=r_PlainA h.ok
 unfold regS
 cases hP:plainS S with
 | false =>
   rw [hP] at hpl
   rw [if_neg (by simp)]
   simp [schA]
   (repeat' (first|contradiction|exact .ok|apply And.intro|intro _|(refine gc (fun h=>?_) (fun h=>?_)<;>(have h':=h;(try simp at h');first|done|simp[h,h']|simp))))
   refine acallT_plain hpl (by simp [schA]) ?_
   simp [regA]
   all_goals exact gz
 | true =>
 rw [hP] at hpl
 by_cases n1:t<0
 ·rw [if_neg (by omega)]
  simp [schA]
  (repeat' (first|contradiction|exact .ok|apply And.intro|intro _|(refine gc (fun h=>?_) (fun h=>?_)<;>(have h':=h;(try simp at h');first|done|simp[h,h']|simp))))
  refine acallT_plain hpl (by simp [schA]) ?_
  simp [regA,n1]
  (repeat' (first|contradiction|exact .ok|apply And.intro|intro _|(refine gc (fun h=>?_) (fun h=>?_)<;>(have h':=h;(try simp at h');first|done|simp[h,h',n1]|simp[n1]))))
 obtain ⟨k,rfl⟩:∃ k:Nat,t=k:=⟨t.toNat,by omega⟩
 rw [Int.toNat_natCast]
 by_cases n2:(S.length:Int)≤k
 ·rw [if_neg (by omega)]
  simp [schA]
  (repeat' (first|contradiction|exact .ok|apply And.intro|intro _|(refine gc (fun h=>?_) (fun h=>?_)<;>(have h':=h;(try simp at h');first|done|simp[h,h']|simp))))
  refine acallT_plain hpl (by simp [schA]) ?_
  simp [regA,n1,n2]
  (repeat' (first|contradiction|exact .ok|apply And.intro|intro _|(refine gc (fun h=>?_) (fun h=>?_)<;>(have h':=h;(try simp at h');first|done|simp[h,h',n1,n2]|simp[n1,n2]))))
 have hk:k<S.length:=by omega
 obtain ⟨x,hx⟩:∃ u,u=S[k]:=⟨_,rfl⟩
 have hgx:∀ h,S[k]'h=x:=fun _=>hx.symm
 have htab:tabO S k=x:=by unfold tabO; rw [List.getElem?_eq_getElem hk,← hx]; rfl
 have hxm:x∈S:=by rw [hx]; exact List.getElem_mem hk
 have hxo:=h.ok.ok x hxm
 have hxc:=h.cols x hxm
 have hxt:=h.ty x hxm
 have hxe:=h.ok.ch x hxm
 have hxf:=(h.fk x hxm).1
 rw [htab]
 have hsu:=ups (r13_suit x hxo l (by omega))
 cases hS:suitG x l with
 | false =>
   rw [hS] at hsu
   rw [if_neg (by simp)]
   simp [schA]
   (repeat' (first|contradiction|exact .ok|apply And.intro|intro _|(refine gc (fun h=>?_) (fun h=>?_)<;>(have h':=h;(try simp at h');first|done|simp[h,h']|simp))))
   refine acallT_plain hpl (by simp [schA]) ?_
   simp [n1,n2,hk,hgx,Tb.c]
   (repeat' (first|contradiction|exact .ok|apply And.intro|intro _|(refine gc (fun h=>?_) (fun h=>?_)<;>(have h':=h;(try simp at h');first|done|simp[h,h',n1,n2]|simp[n1,n2]))))
   refine acallT_plain hsu (by simp [Tb.a,Tb.c]) ?_
   simp [regA]
   all_goals exact gz
 | true =>
 have hA:=suit_ats hS hl
 rw [hS] at hsu
 by_cases n3:¬ P.length=x.fk.length
 ·have n3i:¬ (P.length:Int)=x.fk.length:=by omega
  rw [if_neg (by simp [n3])]
  simp [schA]
  (repeat' (first|contradiction|exact .ok|apply And.intro|intro _|(refine gc (fun h=>?_) (fun h=>?_)<;>(have h':=h;(try simp at h');first|done|simp[h,h']|simp))))
  refine acallT_plain hpl (by simp [schA]) ?_
  simp [n1,n2,hk,hgx,Tb.c]
  (repeat' (first|contradiction|exact .ok|apply And.intro|intro _|(refine gc (fun h=>?_) (fun h=>?_)<;>(have h':=h;(try simp at h');first|done|simp[h,h',n1,n2]|simp[n1,n2]))))
  refine acallT_plain hsu (by simp [Tb.a,Tb.c]) ?_
  simp [regA,n1,n2,hk,hgx,Tb.c,n3i]
  (repeat' (first|contradiction|exact .ok|apply And.intro|intro _|(refine gc (fun h=>?_) (fun h=>?_)<;>(have h':=h;(try simp at h');first|done|simp[h,h',n3i]|simp[n3i]))))
 have n3i:(P.length:Int)=x.fk.length:=by omega
 rw [if_pos ⟨rfl,by omega,by omega,rfl,by omega⟩]
 have hPl:P.length≤8:=by omega
 simp [schA]
 (repeat' (first|contradiction|exact .ok|apply And.intro|intro _|(refine gc (fun h=>?_) (fun h=>?_)<;>(have h':=h;(try simp at h');first|done|simp[h,h']|simp))))
 refine acallT_plain hpl (by simp [schA]) ?_
 simp [n1,n2,hk,hgx,Tb.c]
 (repeat' (first|contradiction|exact .ok|apply And.intro|intro _|(refine gc (fun h=>?_) (fun h=>?_)<;>(have h':=h;(try simp at h');first|done|simp[h,h',n1,n2]|simp[n1,n2]))))
 refine acallT_plain hsu (by simp [Tb.a,Tb.c]) ?_
 simp [n1,n2,hk,hgx,Tb.c,n3i,show 32*(x.cols.length:Int)≤281474976710656 from by omega,(mk8 x.cols.length (by omega)).1]
 (repeat' (first|contradiction|exact .ok|apply And.intro|intro _|(refine gc (fun h=>?_) (fun h=>?_)<;>(have h':=h;(try simp at h');first|done|simp[h,h',n3i]|simp[n3i]))))
 obtain ⟨G,hG⟩:∃ G,G=regG x l P:=⟨_,rfl⟩
 rw [← hG]
 unfold regG at hG
 obtain ⟨T,hT⟩:∃ T,T=rowsR (clsR x l) x.cols.length 0 [List.replicate x.cols.length nulV]:=⟨_,rfl⟩
 rw [← hT] at hG
 have hTl:∀ R,T=some R→R.length≤2000∧∀ r∈R,r.length=x.cols.length:=fun R e=>by
  rw [hT] at e
  exact ⟨rowsR_len (by simp) e,rowsR_row (by simp) e⟩
 refine aloopT mixs (by decide) (fun y:Nat×List (List V)=>{ s:=mkS [(2,.d (.sl (l.map At.c))),(3,.d (.sl (P.map rgD))),(10,.ptr 10 0 0),(11,.d (.sl (y.2.map rowD))),(12,.d (.int .i64 y.1))],b:=mkB [(10,10,.var (x.c.map AV.d))] })
  (fun y=>y.1≤x.cols.length∧rowsR (clsR x l) (x.cols.length - y.1) y.1 y.2=T∧y.2.length≤2000∧∀ r∈y.2,r.length=x.cols.length) (fun y=>x.cols.length - y.1) (0,[List.replicate x.cols.length nulV]) ⟨by simp,by simp [hT],by simp,by simp⟩
  (sub_mk _ [(10,10,_)] ⟨by simp,by simp,by simp [renOf,Blk.live,Tb.c],by simp⟩ (by simp [renOf,rowD,nulV,V.c])) ?_
 rintro ⟨c,R⟩ ⟨hc,hR,hRl,hRr⟩
 simp only at hc hR hRl hRr
 by_cases hlt:c<x.cols.length
 ·obtain ⟨m,hm⟩:∃ m,x.cols.length - c=m+1:=⟨x.cols.length - c - 1,by omega⟩
  have hm2:x.cols.length - (c+1)=m:=by omega
  rw [hm,rowsR] at hR
  obtain ⟨u,hu⟩:∃ u,u=x.cols[c]:=⟨_,rfl⟩
  have hgu:∀ h,x.cols[c]'h=u:=fun _=>hu.symm
  have hum:u∈x.cols:=by rw [hu]; exact List.getElem_mem hlt
  have hcol:colO x c=u:=by unfold colO; rw [List.getElem?_eq_getElem hlt,← hu]; rfl
  have hke:=ups (r_key x hxo c)
  have hcls:=ups (r13_classes u c l hA.len (hxt u hum) hA.t hA.n)
  have hcl:=clsR_len x l c
  have hAl:=hA.len
  have hnum:=ups (r13_number 0)
  obtain ⟨C,hC⟩:∃ C,C=clsR x l c:=⟨_,rfl⟩
  have hC2:=hC
  unfold clsR at hC2
  rw [hcol] at hC2
  rw [← hC] at hR hcl
  have hprod:R.length*C.length≤2000*204:=Nat.mul_le_mul hRl (by omega)
  have hpr1:0≤(R.length:Int)*C.length:=Int.mul_nonneg (by omega) (by omega)
  have hpr2:(R.length:Int)*C.length≤408000:=by rw [← Int.natCast_mul]; omega
  have hwp:=wrap_in (n:=(R.length:Int)*C.length) (by omega) (by omega)
  clear hpr1 hpr2
  have hwc:=wrap_in (n:=(c:Int)+1) (by omega) (by omega)
  have hw1:=wrap_in (n:=(R.length:Int)) (by omega) (by omega)
  by_cases hb:2000<R.length*C.length
  ·rw [if_pos hb] at hR
   subst hR
   have hbi:(2000:Int)<R.length*C.length:=by rw [← Int.natCast_mul]; omega
   have hK:keyT x c=false:=by
    cases hK:keyT x c with
    | false=>rfl
    | true =>
      rw [hK,if_pos rfl] at hC2
      rw [hC2] at hb
      simp at hb
      omega
   rw [hK] at hke hC2
   rw [if_neg (by simp)] at hC2
   simp [hlt,Tb.c]
   (repeat' (first|contradiction|exact .ok|apply And.intro|intro _|(refine gc (fun h=>?_) (fun h=>?_)<;>(have h':=h;(try simp at h');first|done|simp[h,h']|simp))))
   refine acallT_plain hke (by simp [Tb.a,Tb.c]) ?_
   simp [hlt,hgu,Tb.c,Col.c]
   (repeat' (first|contradiction|exact .ok|apply And.intro|intro _|(refine gc (fun h=>?_) (fun h=>?_)<;>(have h':=h;(try simp at h');first|done|simp[h,h']|simp))))
   refine acallT_plain hcls (by simp [Col.a,Col.c]) ?_
   rw [← hC2]
   simp [hwp,hbi]
   (repeat' (first|contradiction|exact .ok|apply And.intro|intro _|(refine gc (fun h=>?_) (fun h=>?_)<;>(have h':=h;(try simp at h');first|done|simp[h,h',hwp,hbi]|simp[hwp,hbi]))))
   all_goals simp [hG,regA]
  rw [if_neg hb] at hR
  have hbi:¬ (2000:Int)<R.length*C.length:=by rw [← Int.natCast_mul]; omega
  refine' (fun (key:LoopKey Es 236 0 (rgF x l P R c C 0) _ _)=>?main) ?keyg
  case main =>
   simp [hlt,Tb.c]
   (repeat' (first|contradiction|exact .ok|apply And.intro|intro _|(refine gc (fun h=>?_) (fun h=>?_)<;>(have h':=h;(try simp at h');first|done|simp[h,h']|simp))))
   refine acallT_plain hke (by simp [Tb.a,Tb.c]) ?_
   cases hK:keyT x c with
   | true =>
     rw [hK,if_pos rfl] at hC2
     simp
     (repeat' (first|contradiction|exact .ok|apply And.intro|intro _|(refine gc (fun h=>?_) (fun h=>?_)<;>(have h':=h;(try simp at h');first|done|simp[h,h']|simp))))
     refine acallT_plain hnum (by simp) ?_
     have hn2:¬ (2000:Int)<R.length:=by omega
     simp [V.a,hw1,hn2]
     (repeat' (first|contradiction|exact .ok|apply And.intro|intro _|(refine gc (fun h=>?_) (fun h=>?_)<;>(have h':=h;(try simp at h');first|done|simp[h,h',hw1,hn2]|simp[hw1,hn2]))))
     refine key _ ?_
     exact sub_mkn 14 900 71 1 (by simp) (by simp) (by decide) (by decide) _ [(10,10,_),(900,900,_)] ⟨by simp,by simp,by simp [renOf,Blk.live,Tb.c,mulR],by simp⟩ (by simp [renOf,hC2,V.c])
   | false =>
     rw [hK,if_neg (by simp)] at hC2
     simp [hlt,hgu,Tb.c,Col.c]
     (repeat' (first|contradiction|exact .ok|apply And.intro|intro _|(refine gc (fun h=>?_) (fun h=>?_)<;>(have h':=h;(try simp at h');first|done|simp[h,h']|simp))))
     refine acallT_plain hcls (by simp [Col.a,Col.c]) ?_
     rw [← hC2]
     simp [hwp,hbi]
     (repeat' (first|contradiction|exact .ok|apply And.intro|intro _|(refine gc (fun h=>?_) (fun h=>?_)<;>(have h':=h;(try simp at h');first|done|simp[h,h',hwp,hbi]|simp[hwp,hbi]))))
     refine key _ ?_
     exact sub_mkn 14 900 71 1 (by simp) (by simp) (by decide) (by decide) _ [(10,10,_),(900,900,_)] ⟨by simp,by simp,by simp [renOf,Blk.live,Tb.c,mulR],by simp⟩ (by simp [renOf])
  have hml:=mulR_len C c R
  clear hC2 hcls hwp hcl hnum hke
  intro st hst
  refine aloopT mixs (by decide) (rgF x l P R c C) (fun i=>i≤R.length) (fun i=>R.length - i) 0 (by simp) hst ?_
  intro i hi
  by_cases hil:i<R.length
  ·obtain ⟨r,hr⟩:∃ r,r=R[i]:=⟨_,rfl⟩
   have hgr:∀ h,R[i]'h=r:=fun _=>hr.symm
   have hrl:=hRr r (by rw [hr]; exact List.getElem_mem hil)
   have hmt:=mulR_take (C:=C) (c:=c) hil
   rw [← hr] at hmt
   have hmk:=mulR_len C c (R.take i)
   rw [List.length_take,Nat.min_eq_left (by omega)] at hmk
   have hkm:(i+1)*C.length≤R.length*C.length:=Nat.mul_le_mul_right _ hil
   rw [Nat.add_mul,Nat.one_mul] at hkm
   have hkp:(i+1)*C.length=i*C.length+C.length:=by rw [Nat.add_mul,Nat.one_mul]
   have hwi:=wrap_in (n:=(i:Int)+1) (by omega) (by omega)
   simp [rgF,hil,Tb.c]
   (repeat' (first|contradiction|exact .ok|apply And.intro|intro _|(refine gc (fun h=>?_) (fun h=>?_)<;>(have h':=h;(try simp at h');first|done|simp[h,h']|simp))))
   obtain ⟨K,hK⟩:∃ K,K=i*C.length:=⟨_,rfl⟩
   rw [← hK] at hmk hkm hkp
   simp only [← hK]
   generalize hM:mulR C c (R.take i)=M at *
   refine aloopT mixs (by decide) (fun j:Nat=>{ s:=mkS [(2,.d (.sl (l.map At.c))),(3,.d (.sl (P.map rgD))),(10,.ptr 10 0 0),(11,.d (.sl (R.map rowD))),(12,.d (.int .i64 c)),(13,.d (.sl (C.map V.c))),(14,.ref 900 0 (K+j) 1),(15,.d (.int .i64 i)),(16,.d (.int .i64 j))],b:=mkB [(10,10,.var (x.c.map AV.d)),(900,900,.arr 71 1 ((M++(C.take j).map fun v=>r.set c v).map rowD) false)] })
    (fun j=>j≤C.length) (fun j=>C.length - j) 0 (by simp) (sub_mk _ [(10,10,_),(900,900,_)] ⟨by simp,by simp,by simp [renOf,Blk.live,Tb.c],by simp⟩ (by simp [renOf])) ?_
   intro j hj
   by_cases hjl:j<C.length
   ·obtain ⟨v,hv⟩:∃ v,v=C[j]:=⟨_,rfl⟩
    have hgv:∀ h,C[j]'h=v:=fun _=>hv.symm
    have hus:=map_take (f:=fun v:V=>r.set c v) hjl
    rw [← hv] at hus
    have hul:((C.take j).map fun v=>r.set c v).length=j:=by rw [List.length_map,List.length_take]; omega
    have hwj:=wrap_in (n:=(j:Int)+1) (by omega) (by omega)
    generalize ((C.take j).map fun v=>r.set c v)=U at *
    have htk:((M++U).map rowD).take (K+j)=(M++U).map rowD:=List.take_of_length_le (by simp; omega)
    have htk2:(M.map rowD++U.map rowD).take (K+j)=M.map rowD++U.map rowD:=List.take_of_length_le (by simp; omega)
    have hn0:¬ x.cols.length=0:=by omega
    have htr:(r.map V.c).take x.cols.length=r.map V.c:=List.take_of_length_le (by simp [hrl])
    simp [hlt,hil,hjl,hgr,hgv,Tb.c,V.c,rowD,hrl,hn0,htr,hmk,hul,htk2,show 32*(x.cols.length:Int)≤281474976710656 from by omega,(mk8 x.cols.length (by omega)).1,szs (K+j) (by omega) 24 (by decide),szs (K+j+1) (by omega) 24 (by decide)]
    (repeat' (first|contradiction|exact .ok|apply And.intro|intro _|(refine gc (fun h=>?_) (fun h=>?_)<;>(have h':=h;(try simp at h');first|done|simp[h,h']|simp))))
    refine ⟨j+1,by omega,?_,by simp; omega⟩
    refine sub_mk _ [(10,10,_),(900,131,_)] ⟨by simp,by simp,by simp [renOf,Blk.live,Tb.c,hus,rowD]; exact List.take_of_length_le (by simp [hrl]),by simp⟩ (by simp [renOf,hwj]; omega)
   obtain rfl:j=C.length:=by omega
   simp
   (repeat' (first|contradiction|exact .ok|apply And.intro|intro _|(refine gc (fun h=>?_) (fun h=>?_)<;>(have h':=h;(try simp at h');first|done|simp[h,h']|simp))))
   refine ⟨i+1,by omega,?_,by simp; omega⟩
   refine sub_mk _ [(10,10,_),(900,900,_)] ⟨by simp,by simp,by simp [renOf,Blk.live,Tb.c,hmt],by simp⟩ (by simp [renOf,hwi,hkp])
  obtain rfl:i=R.length:=by omega
  simp [rgF]
  (repeat' (first|contradiction|exact .ok|apply And.intro|intro _|(refine gc (fun h=>?_) (fun h=>?_)<;>(have h':=h;(try simp at h');first|done|simp[h,h']|simp))))
  refine ⟨(c+1,mulR C c R),⟨by simp only; omega,by simp only; rw [hm2]; exact hR,by simp only; omega,mulR_row hRr⟩,?_,by simp; omega⟩
  refine sub_mk _ [(10,10,_)] ⟨by simp,by simp,by simp [renOf,Blk.live,Tb.c],by simp⟩ (by simp [renOf,hwc,hml]; try exact List.take_of_length_le (by simp [hml]))
 obtain rfl:c=x.cols.length:=by omega
 rw [Nat.sub_self,rowsR] at hR
 subst hR
 simp only at hG
 clear hT hTl
 obtain ⟨OT,hOT⟩:∃ OT,OT=ownG x.ch l R []:=⟨_,rfl⟩
 rw [← hOT] at hG
 have hOTl:OT.length≤2000:=by have:=ownG_len (ch:=x.ch) (l:=l) (R:=R) (O:=[]); rw [← hOT] at this; simp at this; omega
 have hOTk:∀ o∈OT,OwnOk x.cols.length l o:=by rw [hOT]; exact ownG_ok hRr (by simp)
 have hAl:=hA.len
 have hAt:=hA.t
 have hche:=hxo.ch
 simp [Tb.c]
 (repeat' (first|contradiction|exact .ok|apply And.intro|intro _|(refine gc (fun h=>?_) (fun h=>?_)<;>(have h':=h;(try simp at h');first|done|simp[h,h']|simp))))
 refine aloopT mixs (by decide) (fun y:Nat×List Rg=>{ s:=mkS [(2,.d (.sl (l.map At.c))),(3,.d (.sl (P.map rgD))),(10,.ptr 10 0 0),(11,.d (.sl (R.map rowD))),(18,.ref 901 0 y.2.length 3),(19,.d (.int .i64 y.1))],b:=mkB [(10,10,.var (x.c.map AV.d)),(901,901,.arr 73 3 (y.2.map Rg.c) false)] })
  (fun y=>y.1≤R.length∧ownG x.ch l (R.drop y.1) y.2=OT∧y.2.length≤y.1∧∀ o∈y.2,OwnOk x.cols.length l o) (fun y=>R.length - y.1) (0,[]) ⟨by simp,by simp [hOT],by simp,by simp⟩
  (sub_mkn 18 901 73 3 (by simp) (by simp) (by decide) (by decide) _ [(10,10,_),(901,901,_)] ⟨by simp,by simp,by simp [renOf,Blk.live,Tb.c],by simp⟩ (by simp [renOf])) ?_
 clear hOT
 rintro ⟨i,O⟩ ⟨hi,hO,hOl,hOk⟩
 simp only at hi hO hOl hOk
 by_cases hil:i<R.length
 ·obtain ⟨r,hr⟩:∃ r,r=R[i]:=⟨_,rfl⟩
  have hgr:∀ h,R[i]'h=r:=fun _=>hr.symm
  have hrl:=hRr r (by rw [hr]; exact List.getElem_mem hil)
  rw [List.drop_eq_getElem_cons hil,← hr,ownG] at hO
  have hwi:=wrap_in (n:=(i:Int)+1) (by omega) (by omega)
  have hos:=ownS_ok (ch:=x.ch) (l:=l) hrl hOk
  have hosl:=ownS_len (ch:=x.ch) (l:=l) (O:=O) (r:=r)
  have htr:=ups (r13_truths l (by omega) hAt r (by omega))
  simp [hil]
  (repeat' (first|contradiction|exact .ok|apply And.intro|intro _|(refine gc (fun h=>?_) (fun h=>?_)<;>(have h':=h;(try simp at h');first|done|simp[h,h']|simp))))
  refine aloopT mixs (by decide) (fun k:Nat=>{ s:=mkS [(2,.d (.sl (l.map At.c))),(3,.d (.sl (P.map rgD))),(10,.ptr 10 0 0),(11,.d (.sl (R.map rowD))),(18,.ref 901 0 O.length 3),(19,.d (.int .i64 i)),(20,.d (.bool ((x.ch.take k).all fun e=>(evalV e r).tr != 0))),(21,.d (.int .i64 k))],b:=mkB [(10,10,.var (x.c.map AV.d)),(901,901,.arr 73 3 (O.map Rg.c) false)] })
   (fun k=>k≤x.ch.length) (fun k=>x.ch.length - k) 0 (by simp) (sub_mk _ [(10,10,_),(901,901,_)] ⟨by simp,by simp,by simp [renOf,Blk.live,Tb.c],by simp⟩ (by simp [renOf])) ?_
  intro k hk
  by_cases hkl:k<x.ch.length
  ·obtain ⟨e,he⟩:∃ e,e=x.ch[k]:=⟨_,rfl⟩
   have hge:∀ h,x.ch[k]'h=e:=fun _=>he.symm
   have hem:e∈x.ch:=by rw [he]; exact List.getElem_mem hkl
   have hev:=ups (reval_cf r (by omega) (SizeOf.sizeOf e+1) e (by omega) 0 (hxe e hem).1)
   have htv:=ups (r_truth (evalV e r))
   have hat:=all_take (p:=fun e=>(evalV e r).tr != 0) hkl
   rw [← he] at hat
   have hwk:=wrap_in (n:=(k:Int)+1) (by omega) (by omega)
   generalize hB:((x.ch.take k).all fun e=>(evalV e r).tr != 0)=B at *
   cases B with
   | false =>
     rw [Bool.false_and] at hat
     simp [hkl,Tb.c]
     (repeat' (first|contradiction|exact .ok|apply And.intro|intro _|(refine gc (fun h=>?_) (fun h=>?_)<;>(have h':=h;(try simp at h');first|done|simp[h,h']|simp))))
     refine ⟨k+1,by omega,?_,by simp; omega⟩
     refine sub_mk _ [(10,10,_),(901,901,_)] ⟨by simp,by simp,by simp [renOf,Blk.live,Tb.c],by simp⟩ (by simp [renOf,hwk,hat])
   | true =>
     rw [Bool.true_and] at hat
     rcases e with ⟨o,c2,n2,t2,g2,ks⟩
     simp [hkl,hge,hil,hgr,rowD,Tb.c,Ex.c]
     (repeat' (first|contradiction|exact .ok|apply And.intro|intro _|(refine gc (fun h=>?_) (fun h=>?_)<;>(have h':=h;(try simp at h');first|done|simp[h,h']|simp))))
     refine acallT_plain hev (by simp [Ex.a,Ex.c]) ?_
     generalize evalV (Ex.mk o c2 n2 t2 g2 ks) r=v at *
     simp [V.a]
     (repeat' (first|contradiction|exact .ok|apply And.intro|intro _|(refine gc (fun h=>?_) (fun h=>?_)<;>(have h':=h;(try simp at h');first|done|simp[h,h']|simp))))
     refine acallT_plain htv (by simp [V.a]) ?_
     simp
     (repeat' (first|contradiction|exact .ok|apply And.intro|intro _|(refine gc (fun h=>?_) (fun h=>?_)<;>(have h':=h;(try simp at h');first|done|simp[h,h']|simp))))
     refine ⟨k+1,by omega,?_,by simp; omega⟩
     refine sub_mk _ [(10,10,_),(901,901,_)] ⟨by simp,by simp,by simp [renOf,Blk.live,Tb.c],by simp⟩ (by simp [renOf,hwk,hat])
  obtain rfl:k=x.ch.length:=by omega
  rw [List.take_length]
  unfold ownS fineR at hO hos hosl
  generalize (x.ch.all fun e=>(evalV e r).tr != 0)=F at *
  simp [Tb.c,hil,hgr,rowD]
  (repeat' (first|contradiction|exact .ok|apply And.intro|intro _|(refine gc (fun h=>?_) (fun h=>?_)<;>(have h':=h;(try simp at h');first|done|simp[h,h']|simp))))
  refine acallT_plain htr (by simp) ?_
  have hXl:(trG r l).length=l.length:=by simp [trG]
  generalize trG r l=X at *
  simp
  (repeat' (first|contradiction|exact .ok|apply And.intro|intro _|(refine gc (fun h=>?_) (fun h=>?_)<;>(have h':=h;(try simp at h');first|done|simp[h,h']|simp))))
  refine aloopT mixs (by decide) (fun k:Nat=>{ s:=mkS [(2,.d (.sl (l.map At.c))),(3,.d (.sl (P.map rgD))),(10,.ptr 10 0 0),(11,.d (.sl (R.map rowD))),(18,.ref 901 0 O.length 3),(19,.d (.int .i64 i)),(20,.d (.bool (F&&!((O.take k).any fun o=>o.t==X)))),(22,.d (.sl (ints X))),(23,.d (.int .i64 k))],b:=mkB [(10,10,.var (x.c.map AV.d)),(901,901,.arr 73 3 (O.map Rg.c) false)] })
   (fun k=>k≤O.length) (fun k=>O.length - k) 0 (by simp) (sub_mk _ [(10,10,_),(901,901,_)] ⟨by simp,by simp,by simp [renOf,Blk.live,Tb.c],by simp⟩ (by simp [renOf])) ?_
  intro k hk
  by_cases hkl:k<O.length
  ·obtain ⟨o,ho⟩:∃ e,e=O[k]:=⟨_,rfl⟩
   have hgo:∀ h,O[k]'h=o:=fun _=>ho.symm
   have hom:=hOk o (by rw [ho]; exact List.getElem_mem hkl)
   have hsm:=ups (r13_same o.t X (by rw [hom.1]; omega))
   have hat:=any_take (p:=fun o=>o.t==X) hkl
   rw [← ho] at hat
   have hwk:=wrap_in (n:=(k:Int)+1) (by omega) (by omega)
   cases hB:(F&&!((O.take k).any fun o=>o.t==X)) with
   | false =>
     have hB2:(F&&!((O.take (k+1)).any fun o=>o.t==X))=false:=by
      rw [hat]; exact bool_nf hB
     simp [hkl]
     (repeat' (first|contradiction|exact .ok|apply And.intro|intro _|(refine gc (fun h=>?_) (fun h=>?_)<;>(have h':=h;(try simp at h');first|done|simp[h,h']|simp))))
     refine ⟨k+1,by omega,?_,by simp; omega⟩
     refine sub_mk _ [(10,10,_),(901,901,_)] ⟨by simp,by simp,by simp [renOf,Blk.live,Tb.c],by simp⟩ (by simp only [hB2]; simp [renOf,hwk])
   | true =>
     have hB2:(F&&!((O.take (k+1)).any fun o=>o.t==X))=!(o.t==X):=by
      rw [hat]; exact bool_nt hB
     generalize (o.t==X)=B2 at *
     simp [hkl,hgo,Rg.c]
     (repeat' (first|contradiction|exact .ok|apply And.intro|intro _|(refine gc (fun h=>?_) (fun h=>?_)<;>(have h':=h;(try simp at h');first|done|simp[h,h']|simp))))
     refine acallT_plain hsm (by simp) ?_
     simp
     (repeat' (first|contradiction|exact .ok|apply And.intro|intro _|(refine gc (fun h=>?_) (fun h=>?_)<;>(have h':=h;(try simp at h');first|done|simp[h,h']|simp))))
     refine ⟨k+1,by omega,?_,by simp; omega⟩
     refine sub_mk _ [(10,10,_),(901,901,_)] ⟨by simp,by simp,by simp [renOf,Blk.live,Tb.c],by simp⟩ (by simp only [hB2]; simp [renOf,hwk])
  obtain rfl:k=O.length:=by omega
  rw [List.take_length]
  generalize (F&&!(O.any fun o=>o.t==X))=B at *
  cases B with
  | false =>
    simp only [Bool.false_eq_true,if_false] at hO hos hosl
    simp
    (repeat' (first|contradiction|exact .ok|apply And.intro|intro _|(refine gc (fun h=>?_) (fun h=>?_)<;>(have h':=h;(try simp at h');first|done|simp[h,h']|simp))))
    refine ⟨(i+1,O),⟨by simp only; omega,hO,by simp only; omega,hOk⟩,?_,by simp; omega⟩
    refine sub_mk _ [(10,10,_),(901,901,_)] ⟨by simp,by simp,by simp [renOf,Blk.live,Tb.c],by simp⟩ (by simp [renOf,hwi])
  | true =>
    simp only [if_true] at hO hos hosl
    have htk:(O.map Rg.c).take O.length=O.map Rg.c:=List.take_of_length_le (by simp)
    simp [hil,hgr,rowD,htk,szs O.length (by omega) 72 (by decide),szs (O.length+1) (by omega) 72 (by decide)]
    (repeat' (first|contradiction|exact .ok|apply And.intro|intro _|(refine gc (fun h=>?_) (fun h=>?_)<;>(have h':=h;(try simp at h');first|done|simp[h,h']|simp))))
    refine ⟨(i+1,O++[⟨X,[],r⟩]),⟨by simp only; omega,hO,by simp; omega,hos⟩,?_,by simp; omega⟩
    refine sub_mk _ [(10,10,_),(901,193,_)] ⟨by simp,by simp,by simp [renOf,Blk.live,Tb.c,Rg.c,ints],by simp⟩ (by simp [renOf,hwi])
 obtain rfl:i=R.length:=by omega
 rw [List.drop_length,ownG] at hO
 subst hO
 clear hOl hOk
 simp
 (repeat' (first|contradiction|exact .ok|apply And.intro|intro _|(refine gc (fun h=>?_) (fun h=>?_)<;>(have h':=h;(try simp at h');first|done|simp[h,h']|simp))))
 refine aloopT mixs (by decide) (fun i:Nat=>{ s:=mkS [(3,.d (.sl (P.map rgD))),(18,.d (.sl (O.map Rg.c))),(24,.d (.int .i64 O.length)),(25,.d (.int .i64 i))],b:=mkB [] })
  (fun i=>i≤P.length∧((P.take i).any fun p=>p.length==0)=false) (fun i=>P.length - i) 0 ⟨by simp,by simp⟩ (sub_mk _ [] .nil (by simp [renOf])) ?_
 rintro i ⟨hi,hE⟩
 by_cases hil:i<P.length
 ·obtain ⟨p,hp⟩:∃ p,p=P[i]:=⟨_,rfl⟩
  have hgp:∀ h,P[i]'h=p:=fun _=>hp.symm
  have hat:=any_take (p:=fun p:List Rg=>p.length==0) hil
  rw [← hp,hE,Bool.false_or] at hat
  have hwi:=wrap_in (n:=(i:Int)+1) (by omega) (by omega)
  by_cases h0:p.length=0
  ·have h0i:(p.length:Int)=0:=by omega
   have hpe:p=[]:=List.eq_nil_of_length_eq_zero h0
   have he:emptyP P=true:=by
    unfold emptyP
    rw [List.any_eq_true]
    exact ⟨p,by rw [hp]; exact List.getElem_mem hil,by simp [h0]⟩
   unfold endR at hG
   rw [he,if_pos rfl] at hG
   subst hG
   simp [hil,hgp,rgD,h0,h0i,hpe]
   (repeat' (first|contradiction|exact .ok|apply And.intro|intro _|(refine gc (fun h=>?_) (fun h=>?_)<;>(have h':=h;(try simp at h');first|done|simp[h,h',h0,h0i,hpe]|simp[h0,h0i,hpe]))))
   all_goals simp [regA]
  ·have h0i:¬ (p.length:Int)=0:=by omega
   have hpe:¬ p=[]:=fun e=>h0 (by rw [e]; rfl)
   simp [hil,hgp,rgD,h0i,hpe]
   (repeat' (first|contradiction|exact .ok|apply And.intro|intro _|(refine gc (fun h=>?_) (fun h=>?_)<;>(have h':=h;(try simp at h');first|done|simp[h,h',h0i,hpe]|simp[h0i,hpe]))))
   refine ⟨i+1,⟨by omega,by rw [hat]; simp [hpe]⟩,?_,by simp; omega⟩
   exact sub_mk _ [] .nil (by simp [hwi])
 obtain rfl:i=P.length:=by omega
 rw [List.take_length] at hE
 unfold endR at hG
 rw [show emptyP P=false from hE,if_neg (by simp)] at hG
 simp
 (repeat' (first|contradiction|exact .ok|apply And.intro|intro _|(refine gc (fun h=>?_) (fun h=>?_)<;>(have h':=h;(try simp at h');first|done|simp[h,h']|simp))))
 refine aloopT mixs (by decide) (fun y:Nat×Nat=>{ s:=mkS [(3,.d (.sl (P.map rgD))),(18,.d (.sl (O.map Rg.c))),(24,.d (.int .i64 y.2)),(26,.d (.int .i64 y.1))],b:=mkB [] })
  (fun y=>y.1≤P.length∧y.2≤2000∧limG y.2 (P.drop y.1)=limG O.length P) (fun y=>P.length - y.1) (0,O.length) ⟨by simp,hOTl,by simp⟩ (sub_mk _ [] .nil (by simp [renOf])) ?_
 rintro ⟨i,n⟩ ⟨hi,hn,hL⟩
 simp only at hi hn hL
 by_cases hil:i<P.length
 ·obtain ⟨p,hp⟩:∃ p,p=P[i]:=⟨_,rfl⟩
  have hgp:∀ h,P[i]'h=p:=fun _=>hp.symm
  rw [List.drop_eq_getElem_cons hil,← hp,limG] at hL
  have hwi:=wrap_in (n:=(i:Int)+1) (by omega) (by omega)
  by_cases hn0:n=0
  ·subst hn0
   rw [if_neg (by omega),Nat.zero_mul] at hL
   simp [hil,hgp,rgD]
   (repeat' (first|contradiction|exact .ok|apply And.intro|intro _|(refine gc (fun h=>?_) (fun h=>?_)<;>(have h':=h;(try simp at h');first|done|simp[h,h']|simp))))
   refine ⟨(i+1,0),⟨by simp only; omega,by simp,hL⟩,?_,by simp; omega⟩
   exact sub_mk _ [] .nil (by simp [hwi])
  ·have hnp:(0:Int)<n:=by omega
   have hnn:¬ (n:Int)=0:=by omega
   have hgp2:P[i]?=some p:=by rw [List.getElem?_eq_getElem hil,← hp]
   have hq2:2000 / n≤2000:=Nat.div_le_self _ _
   have hqm:∀ m,m≤2000 / n→n*m≤2000:=fun m h=>by
    have:=(Nat.le_div_iff_mul_le (by omega)).1 h
    rwa [Nat.mul_comm] at this
   have hq:(2000:Int).tdiv n=((2000 / n:Nat):Int):=by
    rw [Int.tdiv_eq_ediv_of_nonneg (by omega)]; rfl
   generalize 2000 / n=q at *
   have hwq:=wrap_in (n:=(q:Int)) (by omega) (by omega)
   by_cases hb:q<p.length
   ·have hbi:(q:Int)<p.length:=by omega
    rw [if_pos ⟨by omega,hb⟩] at hL
    rw [← hL,if_neg (by simp)] at hG
    subst hG
    simp [hil,hgp,hgp2,rgD,hnp,hnn,hn0,hq,hwq,hbi]
    (repeat' (first|contradiction|exact .ok|apply And.intro|intro _|(refine gc (fun h=>?_) (fun h=>?_)<;>(have h':=h;(try simp at h');first|done|simp[h,h',hil,hgp,hgp2,rgD,hnp,hnn,hn0,hq,hwq,hbi]|simp[hil,hgp,hgp2,rgD,hnp,hnn,hn0,hq,hwq,hbi]))))
    all_goals simp [regA]
   ·have hbi:¬ (q:Int)<p.length:=by omega
    rw [if_neg (by omega)] at hL
    have hpl2:n*p.length≤2000:=hqm _ (by omega)
    have hm0:(n:Int)*p.length=((n*p.length:Nat):Int):=by rw [Int.natCast_mul]
    have hwm:=wrap_in (n:=((n*p.length:Nat):Int)) (by omega) (by omega)
    rw [← hm0] at hwm
    simp [hil,hgp,hgp2,rgD,hnp,hnn,hn0,hq,hwq,hbi]
    (repeat' (first|contradiction|exact .ok|apply And.intro|intro _|(refine gc (fun h=>?_) (fun h=>?_)<;>(have h':=h;(try simp at h');first|done|simp[h,h',hil,hgp,hgp2,rgD,hnp,hnn,hn0,hq,hwq,hbi]|simp[hil,hgp,hgp2,rgD,hnp,hnn,hn0,hq,hwq,hbi]))))
    refine ⟨(i+1,n*p.length),⟨by simp only; omega,hpl2,hL⟩,?_,by simp; omega⟩
    exact sub_mk _ [] .nil (by simp [hwi,hwm])
 obtain rfl:i=P.length:=by omega
 rw [List.drop_length,limG] at hL
 rw [← hL,if_pos rfl] at hG
 subst hG
 have hcr:=ups (r13_crossed O hOTl (fun r hr=>by rw [(hOTk r hr).2.1]; simp) P (by omega) hL.symm)
 simp
 (repeat' (first|contradiction|exact .ok|apply And.intro|intro _|(refine gc (fun h=>?_) (fun h=>?_)<;>(have h':=h;(try simp at h');first|done|simp[h,h']|simp))))
 refine acallT_plain hcr (by simp) ?_
 simp [regA]
 all_goals exact gz
end Go.Proofs.Tryz
