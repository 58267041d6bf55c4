import Derived.Test.YthbnleoonldffaaGreatDoorQR8f
import Derived.Test.YthbnleoonldffaaGreatDoorQHRow
import Derived.Test.YthbnleoonldffaaGreatDoorQVwp
import Derived.Test.YthbnleoonldffaaGreatDoorQChq
import Derived.Test.YthbnleoonldffaaGreatDoorQSpl
import Derived.Test.YthbnleoonldffaaGreatDoorQR8c
import Derived.Test.YthbnleoonldffaaGreatDoorQRwc
import Derived.Test.YthbnleoonldffaaGreatDoorRev
import Derived.Test.YthbnleoonldffaaGreatDoorLog
import Derived.Test.YthbnleoonldffaaGreatDoorAbB
set_option linter.all false
namespace Go.Proofs.Tryz
open Go.Ab
set_option maxRecDepth 100000
set_option maxHeartbeats 16000000
theorem aBB {S:List Tb} {T:Nat→List (List V)} (h:vZ S T) {v:Vw} {l:List Nat} (hc:dY S v=some l) (hl3:l.length≤100) {k0 n:Nat} (h0:l[0]?=some k0) (hn:n<(T k0).length) :
  Cf Es 58 [aR S,dK (bE T S.length),v.a,.d (.int .i64 n)] [] (.tup [.d (.sl ((pI S T l v.path n v.path.length).1.map V.c)),.d (.bool true)]) []:=by
 obtain ⟨hlt,hll⟩:=dI hc
 have hfew:=h.fill.few
 have hta:=gL (gW S (by omega) h.fill.ok.ok v (by omega))
 rw [hc] at hta
 unfold mZ at hta
 simp only at hta
 have hk0:=hlt k0 (List.mem_of_getElem? h0)
 have hIl:(bE T S.length).length=S.length:=gQ ..
 have hgI:∀ k,k<S.length→∀ h,(bE T S.length)[k]'h=T k:=fun k hk=>RY T hk
 generalize bE T S.length=I at *
 have hnl:=cV l
 have hga:∀ (i k:Nat),l[i]?=some k→∀ h',(aG (aO l))[i]'h'=[D.int .i64 (k:Int)]:=fun i k e h'=>by
  obtain ⟨a,b⟩:=List.getElem?_eq_some_iff.1 e
  simp [aG,aO,b]
 have hga0:=hga 0 k0 h0
 have hl0:0<l.length:=by omega
 have hZ0:0<(aG (aO l)).length:=by omega
 generalize hZ:aG (aO l)=Z at *
 have hk0I:k0<I.length:=by omega
 have hgT:=hgI k0 hk0
 have n1:¬ (n:Int)<0:=by omega
 have n2:¬ ((T k0).length:Int)≤n:=by omega
 have n3:¬ (I.length:Int)<S.length:=by omega
 have n3n:¬ I.length<S.length:=by omega
 refine aD cF (fn:=Tryz.f58) (by kernel_rfl) rfl (by kernel_rfl) (by decide) (by simp) ?_
 simp [aR,dK,Vw.a,Vw.c] at hta ⊢
 (repeat' first|contradiction|exact .ok|apply And.intro|intro _|(apply gc<;>simp+contextual))
 refine aA hta (by simp) ?_
 simp [hZ0,hga0,hk0I,hgT,gM,n1,n2,n3,n3n]
 (repeat' first|contradiction|exact .ok|apply And.intro|intro _|(apply gc<;>simp+contextual[hZ0,hga0,hk0I,hgT,gM,n1,n2,n3,n3n]))
 refine aL cF (by decide) (fun y:Nat×List V×Nat=>{ s:=cG [(3,.d (.int .i64 y.2.2)),(4,.ptr 4 0 0),(5,.ptr 5 0 0),(6,.ptr 6 0 0),(10,.d (.sl Z)),(12,.ref 912 0 y.2.1.length 3),(51,.d (.sl Z)),(52,.d (.int .i64 l.length)),(53,.d (.int .i64 y.1))],b:=cE [(4,4,.var [.d (.sl (S.map Tb.c))]),(5,5,.var [.d (.sl (I.map gM))]),(6,6,.var (v.c.map AV.d)),(912,912,.arr 111 3 (y.2.1.map V.c) false)] })
  (fun y=>aGK S T l v.path n y∧y.2.1.length≤20*y.1) (fun y=>l.length - y.1) (0,[],n) ⟨⟨by simp,fun _=>rfl,fun j e=>by simp at e,fun _=>rfl⟩,by simp⟩
  (dW 12 912 111 3 (by simp) (by simp) (by decide) (by decide) _ [(4,4,_),(5,5,_),(6,6,_),(912,912,_)] ⟨by simp,by simp,by simp [aB,Blk.live,Vw.c],by simp⟩ (by simp [aB,hnl])) ?_
 rintro ⟨i,out,r⟩ ⟨hI,hol⟩
 obtain ⟨i1,i2,i3,i4⟩:=hI
 simp only at i1 i2 i3 i4 hol
 by_cases hlt2:i<l.length
 ·have hr:=i4 hlt2
  obtain ⟨k,hk,hrk,hrl⟩:=LF h hc h0 hlt hn i (by omega)
  rw [← hr] at hrk
  have hkS:=hlt k (List.mem_of_getElem? hk)
  obtain ⟨x,hx⟩:∃ x,x=S[k]:=⟨_,rfl⟩
  have hgx:∀ h,S[k]'h=x:=fun _=>hx.symm
  have hxm:x∈S:=by rw [hx]; exact List.getElem_mem hkS
  have htab:aV S k=x:=by unfold aV; rw [List.getElem?_eq_getElem hkS,hx]; rfl
  have hxc:=h.fill.cols x hxm
  obtain ⟨row,hrow⟩:∃ w,w=eO T k r:=⟨_,rfl⟩
  have hgr:∀ h',(T k)[r]'h'=row:=fun h'=>by rw [hrow]; unfold eO; rw [List.getElem?_eq_getElem h']; rfl
  have hrowl:row.length=x.cols.length:=by
   have:=(h.row k hkS r row (by rw [List.getElem?_eq_getElem hrk,hgr])).len
   rw [htab] at this; exact this
  have hgak:=hga i k hk
  have hiZ:i<Z.length:=by omega
  have hkI:k<I.length:=by omega
  have hgTk:=hgI k hkS
  have hw:=aH (n:=(i:Int)+1) (by omega) (by omega)
  have m1:¬ (row.length:Int)<x.cols.length:=by omega
  have htr:(row.map V.c).take x.cols.length=row.map V.c:=List.take_of_length_le (by simp; omega)
  have hs1:=eI out.length (by omega) 32 (by decide)
  have hs2:=eI (out.length+row.length) (by omega) 32 (by decide)
  have hs3:=eI (out.length+x.cols.length) (by omega) 32 (by decide)
  have hle:x.cols.length≤row.length:=by omega
  have hout:out++row=(pI S T l v.path n i).1:=by
   cases i with
   | zero =>
     rw [i2 rfl,aAl hk,hrow,hr]
     rfl
   | succ j=>rw [pI,hk,Option.getD_some,← i3 j rfl,hrow,hr,pI]
  by_cases hip:i<v.path.length
  ·obtain ⟨m,k',hm,hk2,hst⟩:=lD hc i hip
   rw [hk] at hk2
   cases hk2
   obtain ⟨f,q,g,hf,hg,htg,htn,hrf,hq,_,hnx⟩:=uO h (n:=n) hip hk hm hst hkS (by rw [← hr]; exact hrk)
   rw [← hr,← hrow] at hrf
   have hmS:=hlt m (List.mem_of_getElem? hm)
   rw [htab] at hg
   obtain ⟨hfl,hge⟩:=List.getElem?_eq_some_iff.1 hg
   obtain ⟨o,ho⟩:∃ o,o=aV S m:=⟨_,rfl⟩
   have hom:o∈S:=by rw [ho]; unfold aV; rw [List.getElem?_eq_getElem hmS]; exact List.getElem_mem hmS
   have hgo:∀ h,S[m]'h=o:=fun h'=>by rw [ho]; unfold aV; rw [List.getElem?_eq_getElem h']; rfl
   rw [← ho] at hrf
   obtain ⟨p,p1,_⟩:=(h.key o hom).pr
   obtain ⟨c,c1,_,_⟩:=(h.key x hxm).fk g (List.mem_of_getElem? hg)
   have hp:=gL (aDU o g p c p1 c1 row (T m) (by have:=h.len m; omega))
   have e1:(fU o.pr).toNat=p:=by rw [p1]; rfl
   have e2:(fU g.cols).toNat=c:=by rw [c1]; rfl
   rw [e1,e2] at hrf
   rw [hrf] at hp
   unfold YO at hp
   have hq0:max (q:Int) 0=q:=by omega
   have hgf:∀ h,v.path[i]'h=(f:Int):=fun _=>hf
   have hgg:∀ h,x.fk[f]'h=g:=fun _=>hge
   have hgam:=hga (i+1) m hm
   have hi1:i+1<Z.length:=by have:=(List.getElem?_eq_some_iff.1 hm).1; omega
   have hi0:(0:Int)≤(i:Int)+1:=by omega
   have hmI:m<I.length:=by omega
   have hgTm:=hgI m hmS
   have hqn:(0:Int)≤q:=by omega
   simp [hlt2,hiZ,hgak,hkS,hgx,hkI,hgTk,gM,hrk,hgr,cC,Tb.c,m1,hle,htr,hs1,hs2,hs3,Vw.c,hip,hgf,hi1,hi0,hw,hgam,hmS,hgo,hmI,hgTm,hfl,hgg,Fk.c]
   (repeat' first|contradiction|exact .ok|apply And.intro|intro _|(apply gc<;>simp+contextual[m1,hip]))
   refine aA hp (by simp [Tb.a,Tb.c,Fk.a,Fk.c]) ?_
   simp [hq0,hqn]
   (repeat' first|contradiction|exact .ok|apply And.intro|intro _|(apply gc<;>simp+contextual))
   refine ⟨(i+1,out++row,q),⟨⟨by simp only; omega,fun e=>by simp at e,fun j e=>?_,fun e=>?_⟩,by simp; omega⟩,?_,by simp; omega⟩
   ·simp only [Nat.add_right_cancel_iff] at e
    subst e
    exact hout
   ·rw [hnx]
   exact aE _ [(4,4,_),(5,5,_),(6,6,_),(912,83,_)] ⟨by simp,by simp,by simp [aB,Blk.live,Vw.c],by simp⟩ (by simp [aB,hw])
  ·simp [hlt2,hiZ,hgak,hkS,hgx,hkI,hgTk,gM,hrk,hgr,cC,Tb.c,m1,hle,htr,hs1,hs2,hs3,Vw.c,hip]
   (repeat' first|contradiction|exact .ok|apply And.intro|intro _|(apply gc<;>simp+contextual[m1,hip]))
   refine ⟨(i+1,out++row,r),⟨⟨by simp only; omega,fun e=>by simp at e,fun j e=>?_,fun e=>?_⟩,by simp; omega⟩,?_,by simp; omega⟩
   ·simp only [Nat.add_right_cancel_iff] at e
    subst e
    exact hout
   ·simp only at e; omega
   exact aE _ [(4,4,_),(5,5,_),(6,6,_),(912,83,_)] ⟨by simp,by simp,by simp [aB,Blk.live,Vw.c],by simp⟩ (by simp [aB,hw])
 obtain rfl:i=l.length:=by omega
 rw [i3 v.path.length (by omega)] at hol ⊢
 generalize (pI S T l v.path n v.path.length).1=R at *
 have hto:(R.map V.c).take R.length=R.map V.c:=List.take_of_length_le (by simp)
 simp
 all_goals exact gz
theorem TU {S:List Tb} {T:Nat→List (List V)} (h:vZ S T) (hpl:Cf Es 118 [aR S] [] (.d (.bool true)) []) {v:Vw} {l:List Nat} (hv:OF S v l) :
  Cf Es 22 [aR S,dK (bE T S.length),v.a] [] (.tup [.d (.int .i64 (sG (tZ S T l v) (T ((l[0]?).getD 0)).length)),.d (.int .i64 0)]) []:=by
 obtain ⟨hlt,hll⟩:=dI hv.ch
 have h3:=hv.len
 have hfew:=h.fill.few
 have hva:=OH (by omega) h.fill.ok.ok (fun x hx=>by have:=h.fill.cols x hx; omega) h.fill.ty hpl hv
 have hta:=gL (gW S (by omega) h.fill.ok.ok v (by omega))
 rw [hv.ch] at hta
 unfold mZ at hta
 simp only at hta
 obtain ⟨k0,hk0⟩:∃ k,k=l[0]:=⟨_,rfl⟩
 have h0:l[0]?=some k0:=by rw [List.getElem?_eq_getElem (by omega),hk0]
 rw [h0,Option.getD_some]
 have hk0S:=hlt k0 (List.mem_of_getElem? h0)
 have hIl:(bE T S.length).length=S.length:=gQ ..
 have hgI:∀ k,k<S.length→∀ h,(bE T S.length)[k]'h=T k:=fun k hk=>RY T hk
 have hrow:=fun n hn=>aBB h hv.ch (by omega) h0 (n:=n) hn
 have hrl:=fun n hn=>LF h hv.ch h0 hlt (n:=n) hn v.path.length (Nat.le_refl _)
 have hme:=fun row hr=>aAD v (by have:=hv.one; omega) (fun e he=>(hv.few e he).1) row hr
 have hTl:=h.len k0
 have hcn:=xR (tZ S T l v)
 generalize bE T S.length=I at *
 have hnl:=cV l
 have hga0:∀ h',(aG (aO l))[0]'h'=[D.int .i64 (k0:Int)]:=fun h'=>by
  obtain ⟨a,b⟩:=List.getElem?_eq_some_iff.1 h0
  simp [aG,aO,b]
 have hZ0:0<(aG (aO l)).length:=by omega
 generalize aG (aO l)=Z at *
 have hk0I:k0<I.length:=by omega
 have hgT:=hgI k0 hk0S
 obtain ⟨R,hR⟩:∃ R:Nat→List V,∀ n,R n=(pI S T l v.path n v.path.length).1:=⟨_,fun _=>rfl⟩
 have hin:∀ n,tZ S T l v n=EO v (R n):=fun n=>by rw [hR]; rfl
 simp only [← hR] at hrow hrl
 generalize tZ S T l v=P at *
 refine aD cF (fn:=Tryz.f22) (by kernel_rfl) rfl (by kernel_rfl) (by decide) (by simp) ?_
 simp [aR,dK,Vw.a,Vw.c] at hva hta hrow hme ⊢
 (repeat' first|contradiction|exact .ok|apply And.intro|intro _|(apply gc<;>simp+contextual))
 refine aA hva (by simp) ?_
 simp [hIl]
 (repeat' first|contradiction|exact .ok|apply And.intro|intro _|(apply gc<;>simp+contextual[hIl]))
 refine aA hta (by simp) ?_
 simp [hZ0,hga0,hk0I,hgT,gM]
 (repeat' first|contradiction|exact .ok|apply And.intro|intro _|(apply gc<;>simp+contextual))
 refine aL cF (by decide) (fun i:Nat=>{ s:=cG [(3,.ptr 3 0 0),(4,.ptr 4 0 0),(5,.ptr 5 0 0),(11,.d (.int .i64 (sG P i))),(41,.d (.int .i64 (T k0).length)),(42,.d (.int .i64 i))],b:=cE [(3,3,.var [.d (.sl (S.map Tb.c))]),(4,4,.var [.d (.sl (I.map gM))]),(5,5,.var (v.c.map AV.d))] })
  (fun i=>i≤(T k0).length) (fun i=>(T k0).length - i) 0 (by simp)
  (aE _ [(3,3,_),(4,4,_),(5,5,_)] ⟨by simp,by simp,by simp [aB,Blk.live,Vw.c],by simp⟩ (by simp [aB,sG])) ?_
 intro i hi
 by_cases hlti:i<(T k0).length
 ·have hw:=aH (n:=(i:Int)+1) (by omega) (by omega)
  have hro:=hrow i hlti
  obtain ⟨_,_,_,hrli⟩:=hrl i hlti
  have hm:=hme (R i) (by omega)
  rw [← hin] at hm
  have hci:=hcn i
  have hs:sG P (i+1)=sG P i+(if P i=true then 1 else 0):=rfl
  have hwc:=aH (n:=(sG P i:Int)+1) (by omega) (by omega)
  cases hP:P i with
  | true =>
    rw [hP] at hm
    rw [hP,if_pos rfl] at hs
    simp [hlti,Vw.c]
    (repeat' first|contradiction|exact .ok|apply And.intro|intro _|(apply gc<;>simp+contextual))
    refine aA hro (by simp) ?_
    simp
    (repeat' first|contradiction|exact .ok|apply And.intro|intro _|(apply gc<;>simp+contextual))
    refine aA hm (by simp) ?_
    simp [hwc]
    (repeat' first|contradiction|exact .ok|apply And.intro|intro _|(apply gc<;>simp+contextual[hwc]))
    refine ⟨i+1,by omega,?_,by simp; omega⟩
    simp only [hs]
    exact aE _ [(3,3,_),(4,4,_),(5,5,_)] ⟨by simp,by simp,by simp [aB,Blk.live,Vw.c],by simp⟩ (by simp [aB,hw])
  | false =>
    rw [hP] at hm
    rw [hP,if_neg (by simp),Nat.add_zero] at hs
    simp [hlti,Vw.c]
    (repeat' first|contradiction|exact .ok|apply And.intro|intro _|(apply gc<;>simp+contextual))
    refine aA hro (by simp) ?_
    simp
    (repeat' first|contradiction|exact .ok|apply And.intro|intro _|(apply gc<;>simp+contextual))
    refine aA hm (by simp) ?_
    simp
    (repeat' first|contradiction|exact .ok|apply And.intro|intro _|(apply gc<;>simp+contextual))
    refine ⟨i+1,by omega,?_,by simp; omega⟩
    simp only [hs]
    exact aE _ [(3,3,_),(4,4,_),(5,5,_)] ⟨by simp,by simp,by simp [aB,Blk.live,Vw.c],by simp⟩ (by simp [aB,hw])
 obtain rfl:i=(T k0).length:=by omega
 simp
 all_goals exact gz
def sM (M:List Bool):List (List D):=M.map fun b=>[D.bool b]
theorem ZY (M:List Bool) (k:Nat) (b:Bool):(sM M).set k [D.bool b]=sM (M.set k b):=by
 unfold sM
 rw [List.map_set]
theorem aCA {e:Ex} (he:e.few 0=true) (ks:List Qy) {A B:List (List V)} (hA:∀ r∈A,r.length≤500) (hB:∀ r∈B,r.length≤500) (hAl:A.length≤1000) (hBl:B.length≤1000) (hAB:A.length*B.length≤50000) (wa wb:Int) :
  Cf En 110 [(cH 5 [] 1 e ks).a,.d (.sl (A.map cC)),.d (.sl (B.map cC)),.d (.int .i64 wa),.d (.int .i64 wb)] [] (.d (.sl ((QZ e A B).map cC))) []:=by
 have hev:=fun row (hr:row.length≤9223372036854775807)=>qK row hr (SizeOf.sizeOf e+1) e (by omega) 0 he
 have hm1:(B.length:Int)≤9223372036854775807:=by omega
 have hm2:(B.length:Int)≤281474976710656:=by omega
 obtain ⟨o,c,n,t,g,kk⟩:=e
 refine aD aW (fn:=Tryz.f110) (by kernel_rfl) rfl (by kernel_rfl) (by decide) (by simp) ?_
 simp [cH,aG,Qy.a,Qy.c,aM,Ex.a,Ex.c,aC,hm1,hm2]
 (repeat' first|contradiction|exact .ok|apply And.intro|intro _|(apply gc<;>simp+contextual))
 refine aL aW (by decide) (fun y:Nat×List Bool=>{ s:=cG [(1,.d (.sl (A.map cC))),(2,.d (.sl (B.map cC))),(5,.ptr 5 0 0),(11,.ref 911 0 B.length 1),(12,.ref 912 0 (VT (.mk o c n t g kk) A B y.1).length 1),(13,.d (.int .i64 y.1))],b:=cE [(5,5,.var ((cH 5 [] 1 (.mk o c n t g kk) ks).c.map AV.d)),(911,911,.arr 4 1 (sM y.2) false),(912,912,.arr 118 1 ((VT (.mk o c n t g kk) A B y.1).map cC) false)] })
  (fun y=>y.1≤A.length∧y.2.length=B.length) (fun y=>A.length - y.1) (0,List.replicate B.length false) ⟨by simp,by simp⟩
  (dW 12 912 118 1 (by simp) (by simp) (by decide) (by decide) _ [(5,5,_),(911,20,_),(912,912,_)] ⟨by simp,by simp,by simp [aB,Blk.live,cH,aG,Qy.c,aM,Ex.c,aC,AO,sM],by simp⟩ (by simp [aB,AO])) ?_
 rintro ⟨i,M⟩ ⟨hi,hM⟩
 simp only at hi hM
 by_cases hlt:i<A.length
 ·obtain ⟨a,ha⟩:∃ r,r=A[i]:=⟨_,rfl⟩
  have hga:∀ h,A[i]'h=a:=fun _=>ha.symm
  have hal:=hA a (by rw [ha]; exact List.getElem_mem hlt)
  have hOs:=KI (e:=.mk o c n t g kk) (B:=B) hlt
  have hln:=fun k (hk:k≤B.length)=>aDG (e:=.mk o c n t g kk) hlt hk
  rw [← ha] at hOs hln
  have hwi:=aH (n:=(i:Int)+1) (by omega) (by omega)
  generalize VT (.mk o c n t g kk) A B i=P at *
  simp [hlt]
  (repeat' first|contradiction|exact .ok|apply And.intro|intro _|(apply gc<;>simp+contextual))
  refine aL aW (by decide) (fun y:Nat×List Bool×Bool=>{ s:=cG [(1,.d (.sl (A.map cC))),(2,.d (.sl (B.map cC))),(5,.ptr 5 0 0),(11,.ref 911 0 B.length 1),(12,.ref 912 0 (P++OQ (.mk o c n t g kk) a B y.1).length 1),(13,.d (.int .i64 i)),(14,.d (.bool y.2.2)),(15,.d (.int .i64 y.1))],b:=cE [(5,5,.var ((cH 5 [] 1 (.mk o c n t g kk) ks).c.map AV.d)),(911,911,.arr 4 1 (sM y.2.1) false),(912,912,.arr 118 1 ((P++OQ (.mk o c n t g kk) a B y.1).map cC) false)] })
   (fun y=>y.1≤B.length∧y.2.1.length=B.length) (fun y=>B.length - y.1) (0,M,false) ⟨by simp,hM⟩
   (aE _ [(5,5,_),(911,911,_),(912,912,_)] ⟨by simp,by simp,by simp [aB,Blk.live,KH],by simp⟩ (by simp [aB,KH])) ?_
  rintro ⟨k,N,f⟩ ⟨hk,hN⟩
  simp only at hk hN
  by_cases hkb:k<B.length
  ·obtain ⟨b,hb⟩:∃ r,r=B[k]:=⟨_,rfl⟩
   have hgb:∀ h,B[k]'h=b:=fun _=>hb.symm
   have hbl:=hB b (by rw [hb]; exact List.getElem_mem hkb)
   have hbo:=aCy a b (by omega) (by omega)
   have hev1:=hev (a++b) (by rw [List.length_append]; omega)
   have htr:=jF (aI (.mk o c n t g kk) (a++b))
   have hIs:=YD (e:=.mk o c n t g kk) (a:=a) hkb
   rw [← hb] at hIs
   have hwk:=aH (n:=(k:Int)+1) (by omega) (by omega)
   have hlen:=hln k (by omega)
   obtain ⟨Z,hZ⟩:∃ Z,Z=P++OQ (.mk o c n t g kk) a B k:=⟨_,rfl⟩
   rw [← hZ] at hlen ⊢
   have hkN:k<N.length:=by omega
   have hkNb:k<(sM N).length:=by unfold sM; simpa using hkN
   by_cases h1:(aI (.mk o c n t g kk) (a++b)).tr=1
   ·have hZs:P++OQ (.mk o c n t g kk) a B (k+1)=Z++[a++b]:=by
     rw [hIs,if_pos (by simp [h1]),← List.append_assoc,← hZ]
    rw [h1] at htr
    have hZl:(Z.map cC).length=Z.length:=by simp
    have htk:(Z.map cC).take Z.length=Z.map cC:=List.take_of_length_le (by simp)
    have hs1:=eI Z.length (by omega) 24 (by decide)
    have hs2:=eI (Z.length+1) (by omega) 24 (by decide)
    have hst:=ZY N k true
    obtain ⟨bN,hN1⟩:∃ b,∀ h,(sM N)[k]'h=[D.bool b]:=⟨N[k],fun h=>by simp [sM]⟩
    generalize aI (.mk o c n t g kk) (a++b)=z at *
    simp [hlt,hga,hkb,hgb,cC]
    (repeat' first|contradiction|exact .ok|apply And.intro|intro _|(apply gc<;>simp+contextual))
    refine aA hbo (by simp) ?_
    simp [cH,aG,Qy.c,aM,Ex.c,aC]
    (repeat' first|contradiction|exact .ok|apply And.intro|intro _|(apply gc<;>simp+contextual))
    refine aA hev1 (by simp [Ex.a,Ex.c,aC]) ?_
    simp [V.a]
    refine aA htr (by simp [V.a]) ?_
    simp [hkb,hkNb,hN1,hst,hs1,hs2,htk,cH,aG,Qy.c,aM,Ex.c,aC]
    (repeat' first|contradiction|exact .ok|apply And.intro|intro _|(apply gc<;>simp+contextual))
    refine ⟨(k+1,N.set k true,true),⟨by simp only; omega,by simp [hN]⟩,?_,by simp only; omega⟩
    simp only [hZs]
    exact aE _ [(5,5,_),(911,911,_),(912,62,_)] ⟨by simp,by simp,by simp [aB,Blk.live,cC,cH,aG,Qy.c,aM,Ex.c,aC],by simp⟩ (by simp [aB,hwk])
   ·have hZs:P++OQ (.mk o c n t g kk) a B (k+1)=Z:=by
     rw [hIs,if_neg (by simpa using h1),← hZ]
    generalize aI (.mk o c n t g kk) (a++b)=z at *
    simp [hlt,hga,hkb,hgb,cC]
    (repeat' first|contradiction|exact .ok|apply And.intro|intro _|(apply gc<;>simp+contextual))
    refine aA hbo (by simp) ?_
    simp [cH,aG,Qy.c,aM,Ex.c,aC]
    (repeat' first|contradiction|exact .ok|apply And.intro|intro _|(apply gc<;>simp+contextual))
    refine aA hev1 (by simp [Ex.a,Ex.c,aC]) ?_
    simp [V.a]
    refine aA htr (by simp [V.a]) ?_
    simp [h1]
    (repeat' first|contradiction|exact .ok|apply And.intro|intro _|(apply gc<;>simp+contextual[h1]))
    refine ⟨(k+1,N,f),⟨by simp only; omega,hN⟩,?_,by simp only; omega⟩
    simp only [hZs]
    exact aE _ [(5,5,_),(911,911,_),(912,912,_)] ⟨by simp,by simp,by simp [aB,Blk.live,cC,cH,aG,Qy.c,aM,Ex.c,aC],by simp⟩ (by simp [aB,hwk])
  obtain rfl:k=B.length:=by omega
  rw [← hOs]
  cases f with
  | true =>
    simp [cH,aG,Qy.c,aM,Ex.c,aC]
    (repeat' first|contradiction|exact .ok|apply And.intro|intro _|(apply gc<;>simp+contextual))
    refine ⟨(i+1,N),⟨by simp only; omega,hN⟩,?_,by simp only; omega⟩
    exact aE _ [(5,5,_),(911,911,_),(912,912,_)] ⟨by simp,by simp,by simp [aB,Blk.live,cH,aG,Qy.c,aM,Ex.c,aC],by simp⟩ (by simp [aB,hwi])
  | false =>
    simp [cH,aG,Qy.c,aM,Ex.c,aC]
    (repeat' first|contradiction|exact .ok|apply And.intro|intro _|(apply gc<;>simp+contextual))
    refine ⟨(i+1,N),⟨by simp only; omega,hN⟩,?_,by simp only; omega⟩
    exact aE _ [(5,5,_),(911,911,_),(912,912,_)] ⟨by simp,by simp,by simp [aB,Blk.live,cH,aG,Qy.c,aM,Ex.c,aC],by simp⟩ (by simp [aB,hwi])
 obtain rfl:i=A.length:=by omega
 have hOe:VT (.mk o c n t g kk) A B A.length=QZ (.mk o c n t g kk) A B:=YE ..
 rw [hOe]
 generalize QZ (.mk o c n t g kk) A B=Z at *
 simp
 (repeat' first|contradiction|exact .ok|apply And.intro|intro _|(apply gc<;>simp+contextual))
 refine aL aW (by decide) (fun k:Nat=>{ s:=cG [(2,.d (.sl (B.map cC))),(5,.ptr 5 0 0),(11,.ref 911 0 B.length 1),(12,.ref 912 0 Z.length 1),(17,.d (.int .i64 k))],b:=cE [(5,5,.var ((cH 5 [] 1 (.mk o c n t g kk) ks).c.map AV.d)),(911,911,.arr 4 1 (sM M) false),(912,912,.arr 118 1 (Z.map cC) false)] })
  (fun k=>k≤B.length) (fun k=>B.length - k) 0 (by simp)
  (aE _ [(5,5,_),(911,911,_),(912,912,_)] ⟨by simp,by simp,by simp [aB,Blk.live],by simp⟩ (by simp [aB])) ?_
 intro k hk
 by_cases hkb:k<B.length
 ·have hwk:=aH (n:=(k:Int)+1) (by omega) (by omega)
  have hkM:k<M.length:=by omega
  have hkb2:k<(sM M).length:=by unfold sM; simpa using hkM
  obtain ⟨b,hb⟩:∃ b,∀ h,(sM M)[k]'h=[D.bool b]:=⟨M[k],fun h=>by simp [sM]⟩
  cases b with
  | true =>
    simp [hkb,hkb2,hb]
    (repeat' first|contradiction|exact .ok|apply And.intro|intro _|(apply gc<;>simp+contextual))
    refine ⟨k+1,by omega,?_,by simp; omega⟩
    exact aE _ [(5,5,_),(911,911,_),(912,912,_)] ⟨by simp,by simp,by simp [aB,Blk.live],by simp⟩ (by simp [aB,hwk])
  | false =>
    simp [hkb,hkb2,hb,cH,aG,Qy.c,aM,Ex.c,aC]
    (repeat' first|contradiction|exact .ok|apply And.intro|intro _|(apply gc<;>simp+contextual))
    refine ⟨k+1,by omega,?_,by simp; omega⟩
    exact aE _ [(5,5,_),(911,911,_),(912,912,_)] ⟨by simp,by simp,by simp [aB,Blk.live,cH,aG,Qy.c,aM,Ex.c,aC],by simp⟩ (by simp [aB,hwk])
 obtain rfl:k=B.length:=by omega
 have htk:(Z.map cC).take Z.length=Z.map cC:=List.take_of_length_le (by simp)
 simp [htk]
 all_goals exact gz
def XN:AV→AV
 | .nils=>.d (.sl [])
 | c=>c
theorem XO {h:Gh} {v:Value} {c:AV} (hr:aJ h v c):aJ h v (XN c):=by
 cases c <;> first | exact hr | exact WB hr
theorem JU {E:dZ} {N nb:Nat} {st:St} (n:Nat) {cells:List AV} (hb:st.b n=.var cells) :
  Sub E N nb st { s:=st.s,b:=bM st.b n (.var (cells.map XN)) }:=by
 intro C hP hG a w inv
 obtain ⟨hhi,hdef,hsz',h,hsl,mm⟩:=inv
 have hlive:∀ k,((bM st.b n (.var (cells.map XN))) k).live=(st.b k).live:=fun k=>by
  simp only [bM]
  split
  ·rename_i e; subst e; rw [hb]; rfl
  ·rfl
 refine ⟨hhi,hdef,hsz',h,hsl,⟨fun j=>?_,mm.con,mm.glob,?_,?_,mm.size,mm.frame,mm.mext,mm.mold,mm.lkeep,mm.os,mm.tape,mm.output,mm.know⟩⟩
 ·by_cases ej:j=n
  ·subst ej
   simp only [bM,if_true]
   have:=mm.blks j
   rw [hb] at this
   obtain ⟨l,cs,ety,a1,a2,a3,a4,a5⟩:=this
   refine ⟨l,cs,ety,a1,a2,a3,?_,a5⟩
   rw [cD] at a4 ⊢
   refine ⟨by rw [List.length_map]; exact a4.1,fun k c hc=>?_⟩
   rw [List.getElem?_map,Option.map_eq_some_iff] at hc
   obtain ⟨c0,hc0,rfl⟩:=hc
   obtain ⟨v,hv,hr⟩:=a4.2 k c0 hc0
   exact ⟨v,hv,XO hr⟩
  ·simp only [bM,if_neg ej]
   exact mm.blks j
 ·intro i j l1 l2 hij a1 a2 a3 a4 a5 a6
  rw [hlive] at a1 a2
  exact mm.apart i j l1 l2 hij a1 a2 a3 a4 a5 a6
 ·intro i l1 a1 a3 a5
  rw [hlive] at a1
  exact mm.own i l1 a1 a3 a5
theorem JV (bl:Nat→Blk):∀ (l:List D) (r:List AV),kA bl (l.map AV.d++r)=match kA bl r with
  | some (x,y)=>some (l++x,y)
  | none=>none
 | [],r=>by cases h:kA bl r <;> simp [h]
 | d::l,r=>by
   rw [List.map_cons,List.cons_append,kA,JV bl l r]
   cases kA bl r <;> rfl
theorem OI (S:List Tb) {T:Nat→List (List V)} {l:List Nat} (path:List Int) {k0:Nat} (h0:l[0]?=some k0):jV S T l path (T k0).length 0=T k0:=by
 apply List.ext_getElem?
 intro i
 unfold jV
 rw [bR]
 split
 ·rename_i hi
  rw [pI,h0,Option.getD_some]
  unfold eO
  rw [List.getElem?_eq_getElem hi]
  rfl
 ·rename_i hi
  rw [List.getElem?_eq_none (by omega)]
theorem vN (S:List Tb) (T:Nat→List (List V)) (l:List Nat) (path:List Int) (N i:Nat):(jV S T l path N i).length=N:=gQ ..
theorem DQ {S:List Tb} {T:Nat→List (List V)} (h:vZ S T) {v:Vw} {l:List Nat} (hc:dY S v=some l) {k0:Nat} (h0:l[0]?=some k0) (hlt:∀ k∈l,k<S.length) {i:Nat} (hi:i≤v.path.length):∀ r∈jV S T l v.path (T k0).length i,r.length≤20*(i+1):=by
 intro r hr
 obtain ⟨n,hn⟩:=List.mem_iff_getElem?.1 hr
 unfold jV at hn
 rw [bR] at hn
 split at hn
 ·rename_i hlt2
  simp only [Option.some.injEq] at hn
  subst hn
  obtain ⟨_,_,_,hl⟩:=LF h hc h0 hlt hlt2 i hi
  exact hl
 ·cases hn
theorem JW {S:List Tb} {T:Nat→List (List V)} (h:vZ S T) {v:Vw} {l:List Nat} (hc:dY S v=some l) {k0:Nat} (h0:l[0]?=some k0) (hlt:∀ k∈l,k<S.length) {i:Nat} (hi:i<v.path.length) :
  ∃ (k m f c p:Nat) (g:Fk),l[i]?=some k∧l[i+1]?=some m∧k<S.length∧m<S.length∧v.path[i]?=some (f:Int)∧(aV S k).fk[f]?=some g∧g.cols=[(c:Int)]∧(aV S m).pr=[(p:Int)]∧c<1000∧p<1000 ∧
    vJ S l v (i+1)=cH 5 [] 1 (eqX (bQ S l i+c:Nat) (bQ S l (i+1)+p:Nat)) [vJ S l v i,OB (aV S m).n] ∧
    QZ (eqX (bQ S l i+c:Nat) (bQ S l (i+1)+p:Nat)) (jV S T l v.path (T k0).length i) (T m)=jV S T l v.path (T k0).length (i+1):=by
 obtain ⟨m,k,hm,hk,hst⟩:=lD hc i hi
 have hkS:=hlt k (List.mem_of_getElem? hk)
 have hmS:=hlt m (List.mem_of_getElem? hm)
 have hx:aV S k∈S:=by unfold aV; rw [List.getElem?_eq_getElem hkS]; exact List.getElem_mem hkS
 have hxm:aV S m∈S:=by unfold aV; rw [List.getElem?_eq_getElem hmS]; exact List.getElem_mem hmS
 have hst2:=hst
 unfold eU at hst2
 split at hst2
 ·rename_i hf0
  split at hst2
  ·rename_i g hg
   obtain ⟨c,c1,c2,_⟩:=(h.key _ hx).fk g (List.mem_of_getElem? hg)
   obtain ⟨p,p1,p2⟩:=(h.key _ hxm).pr
   have hcol:=fun x hx=>h.fill.cols x hx
   have b1:=hcol _ hx
   have b2:=hcol _ hxm
   obtain ⟨f,hf⟩:∃ f:Nat,v.path[i]=(f:Int):=⟨v.path[i].toNat,by omega⟩
   rw [hf,Int.toNat_natCast] at hg
   refine ⟨k,m,f,c,p,g,hk,hm,hkS,hmS,by rw [List.getElem?_eq_getElem hi,hf],hg,c1,p1,by omega,by omega,?_,UF h hc h0 hlt hi hk hm hf hg c1 p1⟩
   rw [vJ]
   unfold fkC prC
   rw [hk,hm,List.getElem?_eq_getElem hi]
   simp only [Option.getD_some]
   rw [hf,Int.toNat_natCast,hg,p1]
   simp [c1,fU]
  ·cases hst2
 ·cases hst2
end Go.Proofs.Tryz
