import Derived.Test.YthbnleoonldffaaGreatDoorR8e
import Derived.Test.YthbnleoonldffaaGreatDoorQR8f
import Derived.Test.YthbnleoonldffaaGreatDoorR7c
import Derived.Test.YthbnleoonldffaaGreatDoorQDmp
import Derived.Test.YthbnleoonldffaaGreatDoorQR8w
import Derived.Test.YthbnleoonldffaaGreatDoorMvw
import Derived.Test.YthbnleoonldffaaGreatDoorQPlw
import Derived.Test.YthbnleoonldffaaGreatDoorGue
import Derived.Test.YthbnleoonldffaaGreatDoorQSpl
import Derived.Test.YthbnleoonldffaaGreatDoorQRvu
set_option linter.all false
namespace Go.Proofs.Tryz
open Go.Ab
set_option maxRecDepth 100000
set_option maxHeartbeats 16000000
theorem HC (S:List Tb) (l:List Nat) (v:Vw):∀ i,(vJ S l v i).dep≤i+1
 | 0=>by simp [vJ,OB,cH,Qy.dep,iS]
 | i+1=>by
   have:=HC S l v i
   rw [vJ]
   simp only [cH,OB,Qy.dep,iS]
   omega
theorem ZZ {S:List Tb} {T:Nat→List (List V)} (h:vZ S T) (hT:∀ k,(T k).length≤200) (hNm:∀ k,k<S.length→lW S (DX S k)=k) {v:Vw} {l:List Nat} (hc:dY S v=some l) (h3:l.length≤10) {k0:Nat} (h0:l[0]?=some k0) :
  ∀ i,i≤v.path.length→Cf En 54 [aR S,dK (bE T S.length),(vJ S l v i).a] [] (jY (jV S T l v.path (T k0).length i) true) []:=by
 obtain ⟨hlt,hll⟩:=dI hc
 have hSl:=h.fill.few
 have hIg:∀ k,k<S.length→(bE T S.length)[k]?=some (T k):=fun k hk=>by rw [bR,if_pos hk]
 have hk0S:=hlt k0 (List.mem_of_getElem? h0)
 have htb:aY (fun x:Tb=>x.n==v.tb) S 0=k0:=by
  have:=hc
  unfold dY at this
  split at this
  ·rename_i e
   rw [Option.map_eq_some_iff] at this
   obtain ⟨l',_,rfl⟩:=this
   simp at h0
   unfold lW at *
   omega
  ·cases this
 intro i
 induction i with
 | zero =>
   intro _
   have hfi:=oV S (by omega) v.tb
   rw [cW htb] at hfi
   rw [OI S v.path h0]
   exact KZ hfi (hIg k0 hk0S) (by have:=hT k0; omega)
 | succ i ih =>
   intro hi
   obtain ⟨k,m,f,c,p,g,hk,hm,hkS,hmS,hf,hg,hgc,hpr,hc1,hp1,hq,hj⟩:=JW h hc h0 hlt (i:=i) (by omega)
   have hfi:=oV S (by omega) (aV S m).n
   rw [cW (show aY (fun x:Tb=>x.n==(aV S m).n) S 0=m from hNm m hmS)] at hfi
   have hB:=KZ hfi (hIg m hmS) (by have:=hT m; omega)
   have hA:=ih (by omega)
   have hAl:(jV S T l v.path (T k0).length i).length=(T k0).length:=vN ..
   have hT0:=hT k0
   have hTm:=hT m
   have rB:∀ r∈T m,r.length≤500:=fun r hr=>by
    obtain ⟨n,hn⟩:=List.mem_iff_getElem?.1 hr
    have hx:aV S m∈S:=by unfold aV; rw [List.getElem?_eq_getElem hmS]; exact List.getElem_mem hmS
    have:=(h.row m hmS n r hn).len
    have:=h.fill.cols _ hx
    omega
   have hmul:(T k0).length*(T m).length≤200*200:=Nat.mul_le_mul hT0 hTm
   have d1:=HC S l v i
   have d2:(OB (aV S m).n).dep≤1:=by simp [OB,cH,Qy.dep,iS]
   have hjl:(QZ (eqX (bQ S l i+c:Nat) (bQ S l (i+1)+p:Nat)) (jV S T l v.path (T k0).length i) (T m)).length=(T k0).length:=by rw [hj]; exact vN ..
   have:=ZV (by omega) h.fill.ok.ok (QP _ _) (GG S l v i) (show CQ (OB (aV S m).n) from .scan _) (by omega) (by omega) hA hB (fun r hr=>by have:=DQ h hc h0 hlt (i:=i) (by omega) r hr; omega) rB (by omega) (by omega) (by rw [hAl]; omega) (by rw [hjl]; omega)
   rw [hj] at this
   rw [hq]
   exact this
theorem RW {S:List Tb} (hl:S.length≤1000) (hS:∀ x∈S,x.ok) {I:List (List (List V))} (hf:Cf Es 53 [aR S,dK I] [] (.d (.int .i64 0)) []) {q:Qy} (hq:CQ q) (hd:q.dep≤1000000) {R:List (List V)} (hev:Cf En 54 [aR S,dK I,q.a] [] (jY R true) []) (hR:R.length≤1000) (hr:∀ r∈R,r.length≤1000) :
  ∃ (Z:List (List V)) (e:Int),(e=0→Z.length=R.length)∧Z.length≤1000∧Cf Es 21 [aR S,dK I,q.a] [] (.tup [.d (.sl (Z.map cC)),.d (.int .i64 e)]) []:=by
 obtain ⟨ts,e,hts,ht⟩:=RV hl hS hq hd
 have ht:=gL ht
 have hev:=gL hev
 have hql:=Qy.clen q
 have hqt:=Qy.ctake q
 generalize aG ts=Y at *
 unfold jY at hev
 by_cases he:e=0
 ·subst he
  have hca:=gL (BE 10 R (by omega) hR hr)
  have hcl:=AN 10 R
  refine ⟨vQ 10 R,0,fun _=>hcl,by omega,?_⟩
  generalize vQ 10 R=Z at *
  refine aD cF (fn:=Tryz.f21) (by kernel_rfl) rfl (by kernel_rfl) (by decide) (by simp) ?_
  simp [aR,dK,Qy.a,hql,hqt] at hf ht hev ⊢
  (repeat' first|contradiction|exact .ok|apply And.intro|intro _|(apply gc<;>simp+contextual))
  refine aA hf (by simp) ?_
  simp [hql,hqt]
  (repeat' first|contradiction|exact .ok|apply And.intro|intro _|(apply gc<;>simp+contextual))
  refine aA ht (by simp [hqt]) ?_
  simp [hql,hqt]
  (repeat' first|contradiction|exact .ok|apply And.intro|intro _|(apply gc<;>simp+contextual))
  refine aA hev (by simp [hqt]) ?_
  simp
  (repeat' first|contradiction|exact .ok|apply And.intro|intro _|(apply gc<;>simp+contextual))
  refine aA hca (by simp) ?_
  simp
  all_goals exact gz
 ·refine ⟨[],e,fun h=>absurd h he,by simp,?_⟩
  refine aD cF (fn:=Tryz.f21) (by kernel_rfl) rfl (by kernel_rfl) (by decide) (by simp) ?_
  simp [aR,dK,Qy.a,hql,hqt] at hf ht ⊢
  (repeat' first|contradiction|exact .ok|apply And.intro|intro _|(apply gc<;>simp+contextual))
  refine aA hf (by simp) ?_
  simp [hql,hqt]
  (repeat' first|contradiction|exact .ok|apply And.intro|intro _|(apply gc<;>simp+contextual))
  refine aA ht (by simp [hqt]) ?_
  simp [he]
  (repeat' first|contradiction|exact .ok|apply And.intro|intro _|(apply gc<;>simp+contextual[he]))
def XM (S:List Tb) (l:List Nat) (v:Vw):Qy:=match v.cond with
 | []=>vJ S l v v.path.length
 | e::_=>cH 3 [] 0 e [vJ S l v v.path.length]
theorem aBA {S:List Tb} {T:Nat→List (List V)} (h:vZ S T) (hp:lT S=true) (hT:∀ k,(T k).length≤200) (hNm:∀ k,k<S.length→lW S (DX S k)=k) {v:Vw} {l:List Nat} (hv:OF S v l) :
  ∃ (Z:List (List V)) (e:Int),(e=0→Z.length=sG (tZ S T l v) (T ((l[0]?).getD 0)).length)∧Z.length≤1000∧Cf Es 21 [aR S,dK (bE T S.length),(XM S l v).a] [] (.tup [.d (.sl (Z.map cC)),.d (.int .i64 e)]) []:=by
 obtain ⟨hlt,hll⟩:=dI hv.ch
 have h3:=hv.len
 have hSl:=h.fill.few
 have h0:l[0]?=some l[0]:=List.getElem?_eq_getElem (by omega)
 rw [h0,Option.getD_some]
 obtain ⟨hv0,hfi⟩:=LA h hp hT
 have hva:=BO h.fill.ok
 rw [hv0] at hva
 have hf:=aCz (by omega) (gQ ..) hva hfi
 have hch:=ZZ h hT hNm hv.ch (by omega) h0 v.path.length (Nat.le_refl _)
 have hrows:=DQ h hv.ch h0 hlt (i:=v.path.length) (Nat.le_refl _)
 have hN:=hT l[0]
 have hWl:(jV S T l v.path (T l[0]).length v.path.length).length=(T l[0]).length:=vN ..
 have hdp:=HC S l v v.path.length
 have hone:=hv.one
 match hcd:v.cond,hone with
 | [],_ =>
   obtain ⟨Z,e,h1,h2,h3⟩:=RW (by omega) h.fill.ok.ok hf (GG S l v v.path.length) (by omega) hch (by omega) fun r hr=>by have:=hrows r hr; omega
   have e1:XM S l v=vJ S l v v.path.length:=by unfold XM; rw [hcd]
   rw [e1]
   exact ⟨Z,e,fun he=>by rw [h1 he,hWl,RC hcd],h2,h3⟩
 | [e0],_ =>
   have hfew:=(hv.few e0 (by rw [hcd]; simp)).1
   have hse:=ZX hfew hch (fun r hr=>by have:=hrows r hr; omega) (by omega)
   have hcnt:=RB (S:=S) (T:=T) (l:=l) hcd (T l[0]).length
   have hcle:=xR (tZ S T l v) (T l[0]).length
   obtain ⟨Z,e,h1,h2,h3⟩:=RW (by omega) h.fill.ok.ok hf (.sel e0 hfew _ (GG S l v v.path.length)) (by simp only [cH,Qy.dep,iS]; omega) hse (by rw [hcnt]; omega) fun r hr=>by have:=hrows r (List.mem_filter.1 hr).1; omega
   have e1:XM S l v=cH 3 [] 0 e0 [vJ S l v v.path.length]:=by unfold XM; rw [hcd]
   rw [e1]
   exact ⟨Z,e,fun he=>by rw [h1 he,hcnt],h2,h3⟩
theorem GL (L:List Int) :
  Cf Es 6 [.d (.sl (aG L))] [] (.d (.bool true)) []:=by
 refine aD cF (fn:=Tryz.f6) (by kernel_rfl) rfl (by kernel_rfl) (by decide) (by simp) ?_
 have hpl:=gL (aCt L 0 (by omega))
 obtain ⟨N,hN⟩:∃ N,N=(1+aU L 0 3).toNat:=⟨_,rfl⟩
 have hn3:=bG L 0 (n:=3) (by omega)
 rw [← hN] at hpl
 have hN3:N≤3:=by omega
 have hN1:0<N:=by omega
 have hbl:=AZ L (0+1) N
 have hSl:(dP L (0+1) N).1.length=N:=iC ..
 have hF:=TZ L (0+1) N (by omega)
 have hDN:=AD L (0+1) N
 have hMade:∀ x∈(dP L (0+1) N).1,pG x:=fun x hx=>DI hx
 have hpm:=PE L (0+1) N (by omega)
 obtain ⟨b,hb⟩:∃ b,b=(dP L (0+1) N).2:=⟨_,rfl⟩
 rw [← hb] at hpl hbl
 generalize (dP L (0+1) N).1=S at *
 have hd:=XL hDN
 have hNm:=aBz hDN (by omega)
 have hgd:=gL (aDE L S hF 6 (by omega) b (by omega))
 have hG:=TV L hF hd hpm 6 b (by omega)
 have hTm:∀ k,((fQ L S 6 b (eX S).1.length).1 k).length≤200:=fun k=>by
  unfold fQ
  have:=oR (L:=L) (S:=S) (most:=6) ((eX S).1.take (eX S).1.length) (fun _=>[],b) (fun _=>by simp) k
  omega
 have hle:(AJ L S 6 b).2≤b+10*2801:=by
  unfold AJ fQ
  have:=AL (L:=L) hF (most:=6) (by omega) ((eX S).1.take (eX S).1.length) (fun _=>[],b) (fun z hz=>(RL S).rng z (List.mem_of_mem_take hz))
  have h2:=KT S
  rw [List.length_take] at this
  simp only at this ⊢
  omega
 have hI:(AJ L S 6 b).1=bE (fQ L S 6 b (eX S).1.length).1 S.length:=rfl
 rw [hI] at hgd
 generalize (fQ L S 6 b (eX S).1.length).1=T at *
 generalize (AJ L S 6 b).2=e0 at *
 have hPlain:=aAw hF.ok
 have hPlainR:=aAx hF.ok
 rw [hpm] at hPlain hPlainR
 have hview:=gL (aDR L e0 (by omega) S (by omega) (by omega) hMade hd hNm)
 obtain ⟨l,hvo⟩:=aBW L e0 (by omega) (by omega) hMade hd hNm
 have hcdi:=XC L e0 (by omega) hMade hd hNm hvo.ch
 generalize uH L S e0=vv at *
 obtain ⟨v,e1⟩:=vv
 simp only at hview hvo hcdi
 have h3:=hvo.len
 obtain ⟨hlt,hll⟩:=dI hvo.ch
 have hva:=(BO hF.ok)
 rw [(LA hG hpm hTm).1] at hva
 have hoff:=TR hF hlt (by omega)
 have hva2:=PP (by omega) hF.ok.ok (fun x hx=>by have:=hF.cols x hx; omega) hPlainR hvo hcdi hoff
 have hta:=gL (lP S (by omega) hF.ok.ok v (by omega))
 rw [hvo.ch] at hta
 unfold mZ at hta
 simp only at hta
 have hc1:=TU hG hPlain hvo
 have hcl:=xR (tZ S T l v) (T ((l[0]?).getD 0)).length
 obtain ⟨Z,er,hZ,hZl,hev⟩:=aBA hG hpm hTm hNm hvo
 have h0:l[0]?=some l[0]:=List.getElem?_eq_getElem (by omega)
 have hsteps:=fun i (hi:i<v.path.length)=>JW hG hvo.ch h0 hlt hi
 have hfl:∀ z,z≤l.length→bQ S l z≤20*z:=fun z=>by
  induction z with
  | zero=>intro _; simp [bQ,bU]
  | succ z ih =>
    intro hz
    have hzl:z<l.length:=by omega
    rw [kT S hzl]
    have:=ih (by omega)
    have hk:=hlt _ (List.getElem_mem hzl)
    have:=hF.cols (aV S l[z]) (by unfold aV; rw [List.getElem?_eq_getElem hk]; exact List.getElem_mem hk)
    omega
 have hosu:∀ (k z:Nat),l[z]?=some k→bQ S l (z+1)=bQ S l z+(aV S k).cols.length:=fun k z hz=>by
  obtain ⟨hzl,hze⟩:=List.getElem?_eq_some_iff.1 hz
  have:=kT S hzl
  rw [hze] at this
  exact this
 generalize sG (tZ S T l v) (T ((l[0]?).getD 0)).length=cn at *
 have hTl:cn≤1000:=by have:=hTm ((l[0]?).getD 0); omega
 generalize bE T S.length=I at *
 have hnl:=cV l
 have hga:∀ (i k:Nat),l[i]?=some k→∀ h',(aG (aO l))[i]'h'=[D.int .i64 (k:Int)]:=fun i k e h'=>by
  obtain ⟨a,b⟩:=List.getElem?_eq_some_iff.1 e
  simp [aG,aO,b]
 generalize aG (aO l)=Y at *
 clear hG hPlain hPlainR hcdi hMade hNm hI hDN
 simp [aS] at hpl ⊢
 (repeat' first|contradiction|exact .ok|apply And.intro|intro _|(apply gc<;>simp+contextual))
 refine aK [22] hpl (by simp) (by simp) (by simp) (by simp [aS,aG]) (by simp) ?_
 simp [aS,aR]
 (repeat' first|contradiction|exact .ok|apply And.intro|intro _|(apply gc<;>simp+contextual))
 simp [aS,aR] at hgd hview
 refine aK [22] hgd (by simp) (by simp) (by simp) (by simp [aS]) (by simp [aR]) ?_
 simp [dK]
 (repeat' first|contradiction|exact .ok|apply And.intro|intro _|(apply gc<;>simp+contextual))
 refine aK [22] hview (by simp) (by simp) (by simp) (by simp [aS]) (by simp [aR]) ?_
 simp [Vw.a,Vw.c]
 (repeat' first|contradiction|exact .ok|apply And.intro|intro _|(apply gc<;>simp+contextual))
 refine aA hta (by simp [aR,Vw.a,Vw.c]) ?_
 simp
 (repeat' first|contradiction|exact .ok|apply And.intro|intro _|(apply gc<;>simp+contextual))
 refine aL cF (by decide) (fun k:Nat=>{ s:=cG [(4,.ptr 4 0 0),(5,.ptr 5 0 0),(6,.ptr 6 0 0),(7,.d (.sl Y)),(9,.ptr 9 0 0),(10,.d (.int .i64 (bQ S l k))),(11,.d (.int .i64 k))],b:=cE [(4,4,.var [.d (.sl (S.map Tb.c))]),(5,5,.var [.d (.sl (I.map gM))]),(6,6,.var (v.c.map AV.d)),(9,9,.var ((vJ S l v k).c.map AV.d))] }) (fun k=>k≤v.path.length) (fun k=>v.path.length - k) 0 (by simp)
  ((JU 9 (cells:=[.d (.int .i64 1),.d (.str v.tb),.d (.int .i64 0),.d (.bool false),.d (.int .i64 0),.d (.int .i64 0),.d (.int .i64 0),.d (.str []),.d (.int .i64 0),.nils,.nils,.nils,.nils,.nils,.nils]) (by simp)).trans (aE _ [(4,4,_),(5,5,_),(6,6,_),(9,9,_)] ⟨by simp,by simp,by simp [aB,Blk.live,bM,XN,Vw.c,vJ,OB,cH,aG,Qy.c,vW,exZ0,Ex.c,cA],by simp⟩ (by simp [aB,bQ,bU]))) ?_
 intro i hi
 by_cases hlti:i<v.path.length
 ·obtain ⟨k,m,f,c,p,g,hk,hm,hkS,hmS,hf,hg,hgc,hpr,hc1',hp1',hq,_⟩:=hsteps i hlti
  have hgak:=hga i k hk
  have hgam:=hga (i+1) m hm
  have hiY:i<Y.length:=by omega
  have hi1Y:i+1<Y.length:=by omega
  have hi0:(0:Int)≤(i:Int)+1:=by omega
  have hw:=aH (n:=(i:Int)+1) (by omega) (by omega)
  have hgx:∀ h,S[k]'h=aV S k:=fun h=>by unfold aV; rw [List.getElem?_eq_getElem h]; rfl
  have hgy:∀ h,S[m]'h=aV S m:=fun h=>by unfold aV; rw [List.getElem?_eq_getElem h]; rfl
  obtain ⟨hfp,hfe⟩:=List.getElem?_eq_some_iff.1 hf
  have hgf:∀ h,v.path[i]'h=(f:Int):=fun _=>hfe
  obtain ⟨hgl,hge⟩:=List.getElem?_eq_some_iff.1 hg
  have hgg:∀ h,(aV S k).fk[f]'h=g:=fun _=>hge
  have hos:=hosu k i hk
  have ho1:=hfl i (by omega)
  have ho2:=hfl (i+1) (by omega)
  have hw1:=aH (n:=(bQ S l i:Int)+c) (by omega) (by omega)
  have hw2:=aH (n:=(bQ S l i:Int)+(aV S k).cols.length) (by omega) (by omega)
  have hw3:=aH (n:=(bQ S l i:Int)+(aV S k).cols.length+p) (by omega) (by omega)
  have hos2:(bQ S l (i+1):Int)=(bQ S l i:Int)+(aV S k).cols.length:=by omega
  have hqc:=Qy.clen (vJ S l v i)
  have hqt:=Qy.ctake (vJ S l v i)
  have hq0:∀ f:D→AV,((vJ S l v i).c.map f).drop 15=[]:=fun f=>List.drop_eq_nil_of_le (by rw [List.length_map,hqc]; exact Nat.le_refl _)
  have hql:∀ r:List D,((vJ S l v i).c++r).take 15=(vJ S l v i).c:=fun r=>List.take_left' hqc
  have hqd:∀ r:List D,((vJ S l v i).c++r).drop 15=r:=fun r=>List.drop_left' hqc
  have hpath:i<(aG v.path).length:=by rw [lV]; exact hlti
  simp [hlti,hkS,hmS,hgak,hgam,hiY,hi1Y,hi0,hw,hgx,hgy,Tb.c,Vw.c,hgf,hgl,hgg,Fk.c,hgc,hpr,aG,hw1,hw2,hw3,hqc,hqt,hql,hqd,hq0,JV]
  (repeat' first|contradiction|exact .ok|apply And.intro|intro _|(apply gc<;>simp+contextual))
  refine ⟨i+1,by omega,?_,by simp; omega⟩
  exact (JU 9 (cells:=_) (by simp; rfl)).trans (aE _ [(4,4,_),(5,5,_),(6,6,_),(9,9,_)] ⟨by simp,by simp,by simp [aB,Blk.live,bM,XN,Vw.c,hq,hq0,eqX,eA,OB,cH,aG,Qy.c,vW,exZ0,Ex.c,cA,hos2],by simp⟩ (by simp [aB,hw,hos2]))
 obtain rfl:i=v.path.length:=by omega
 have hqc:=Qy.clen (vJ S l v v.path.length)
 have hqt:=Qy.ctake (vJ S l v v.path.length)
 have hqd1:(vJ S l v v.path.length).c.take 15=(vJ S l v v.path.length).c:=List.take_of_length_le (by omega)
 have hqc2:=Qy.clen (XM S l v)
 have hqt2:=Qy.ctake (XM S l v)
 have hone:=hvo.one
 match hcd:v.cond,hone with
 | [],_ =>
   have e1:XM S l v=vJ S l v v.path.length:=by unfold XM; rw [hcd]
   rw [e1] at hev hqc2 hqt2
   by_cases her:er=0
   ·have hZ':=hZ her
    subst her
    have hZi:(cn:Int)=Z.length:=by omega
    simp [Vw.c,hcd,hqc,hqt]
    (repeat' first|contradiction|exact .ok|apply And.intro|intro _|(apply gc<;>simp+contextual))
    refine aA hev (by simp [aR,dK,Qy.a,hqt,hqd1]) ?_
    simp
    (repeat' first|contradiction|exact .ok|apply And.intro|intro _|(apply gc<;>simp+contextual))
    refine aA hc1 (by simp [aR,dK,Vw.a,Vw.c,hcd]) ?_
    simp
    (repeat' first|contradiction|exact .ok|apply And.intro|intro _|(apply gc<;>simp+contextual))
    refine aA hva (by simp [aR]) ?_
    simp
    (repeat' first|contradiction|exact .ok|apply And.intro|intro _|(apply gc<;>simp+contextual))
    refine aA hva2 (by simp [aR,Vw.a,Vw.c,hcd]) ?_
    simp [hZi]
    all_goals exact gz
   ·simp [Vw.c,hcd,hqc,hqt]
    (repeat' first|contradiction|exact .ok|apply And.intro|intro _|(apply gc<;>simp+contextual))
    refine aA hev (by simp [aR,dK,Qy.a,hqt,hqd1]) ?_
    simp
    (repeat' first|contradiction|exact .ok|apply And.intro|intro _|(apply gc<;>simp+contextual))
    refine aA hc1 (by simp [aR,dK,Vw.a,Vw.c,hcd]) ?_
    simp
    (repeat' first|contradiction|exact .ok|apply And.intro|intro _|(apply gc<;>simp+contextual))
    refine aA hva (by simp [aR]) ?_
    simp
    (repeat' first|contradiction|exact .ok|apply And.intro|intro _|(apply gc<;>simp+contextual))
    refine aA hva2 (by simp [aR,Vw.a,Vw.c,hcd]) ?_
    simp [her]
    (repeat' first|contradiction|exact .ok|apply And.intro|intro _|(apply gc<;>simp+contextual[her]))
 | [e2],_ =>
   have e1:XM S l v=cH 3 [] 0 e2 [vJ S l v v.path.length]:=by unfold XM; rw [hcd]
   rw [e1] at hev
   obtain ⟨o,c,n,t,g,kk⟩:=e2
   by_cases her:er=0
   ·have hZ':=hZ her
    subst her
    have hZi:(cn:Int)=Z.length:=by omega
    simp [Vw.c,hcd,hqc,hqt,hqd1,cH,Qy.a,Qy.c,aM,Ex.a,Ex.c,aC]
    (repeat' first|contradiction|exact .ok|apply And.intro|intro _|(apply gc<;>simp+contextual))
    refine aA hev (by simp [aR,dK,hqt,hqd1,cH,aG,Qy.a,Qy.c,aM,Ex.a,Ex.c,aC]) ?_
    simp
    (repeat' first|contradiction|exact .ok|apply And.intro|intro _|(apply gc<;>simp+contextual))
    refine aA hc1 (by simp [aR,dK,Vw.a,Vw.c,hcd,Ex.c,aC]) ?_
    simp
    (repeat' first|contradiction|exact .ok|apply And.intro|intro _|(apply gc<;>simp+contextual))
    refine aA hva (by simp [aR]) ?_
    simp
    (repeat' first|contradiction|exact .ok|apply And.intro|intro _|(apply gc<;>simp+contextual))
    refine aA hva2 (by simp [aR,Vw.a,Vw.c,hcd,Ex.c,aC]) ?_
    simp [hZi]
    all_goals exact gz
   ·simp [Vw.c,hcd,hqc,hqt,hqd1,cH,Qy.a,Qy.c,aM,Ex.a,Ex.c,aC]
    (repeat' first|contradiction|exact .ok|apply And.intro|intro _|(apply gc<;>simp+contextual))
    refine aA hev (by simp [aR,dK,hqt,hqd1,cH,aG,Qy.a,Qy.c,aM,Ex.a,Ex.c,aC]) ?_
    simp
    (repeat' first|contradiction|exact .ok|apply And.intro|intro _|(apply gc<;>simp+contextual))
    refine aA hc1 (by simp [aR,dK,Vw.a,Vw.c,hcd,Ex.c,aC]) ?_
    simp
    (repeat' first|contradiction|exact .ok|apply And.intro|intro _|(apply gc<;>simp+contextual))
    refine aA hva (by simp [aR]) ?_
    simp
    (repeat' first|contradiction|exact .ok|apply And.intro|intro _|(apply gc<;>simp+contextual))
    refine aA hva2 (by simp [aR,Vw.a,Vw.c,hcd,Ex.c,aC]) ?_
    simp [her]
    (repeat' first|contradiction|exact .ok|apply And.intro|intro _|(apply gc<;>simp+contextual[her]))
end Go.Proofs.Tryz
