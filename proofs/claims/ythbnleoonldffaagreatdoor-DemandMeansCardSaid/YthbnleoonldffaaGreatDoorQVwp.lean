import Derived.Test.YthbnleoonldffaaGreatDoorSuu
import Derived.Test.YthbnleoonldffaaGreatDoorQRwc
import Derived.Test.YthbnleoonldffaaGreatDoorQEnvR
import Derived.Test.YthbnleoonldffaaGreatDoorQR8c
import Derived.Test.YthbnleoonldffaaGreatDoorQHRow
import Derived.Test.YthbnleoonldffaaGreatDoorQSfi
import Derived.Test.YthbnleoonldffaaGreatDoorQSky
set_option linter.all false
namespace Go.Proofs.Tryz
open Go.Ab
set_option maxRecDepth 100000
set_option maxHeartbeats 4000000
def KW:Ex→Int | .mk _ _ _ _ g _=>g
def MC:Ex→Int | .mk o _ _ _ _ _=>o
def vlE (e:Ex):V:=if MC e=2∨MC e=3∨MC e=4 then aI e [] else nulV
def vlR (e:Ex):V:=if e.kids=[]∧(MC e=2∨MC e=3∨MC e=4) then aI e [] else nulV
def eC:Ex→At
 | .mk o _ _ _ g ks=>if o=5 then ⟨g,o,nulV⟩ else match ks with
   | [k]=>⟨KW k,o,nulV⟩
   | [k,u]=>⟨KW k,o,vlE u⟩
   | _=>⟨0,o,nulV⟩
def lN (x:Tb) (e:Ex):Bool:=mW x (eC e)&&(eC e).ex.eq e
theorem aCf (a:At):a.ex.fits:=by
 unfold At.ex
 repeat' split
 all_goals simp [eA,bO,Ex.fits,iO]
 all_goals (repeat' split)
 all_goals (repeat' split)
 all_goals simp [Ex.fits,iO]
theorem ZI (x:Tb) (hx:x.ok) (ht:∀ c∈x.cols,c.t=1∨c.t=2∨c.t=3) (e:Ex) (q:Nat) (hq:e.few q=true) :
  Cf Es 265 [x.a,e.a] [] (.tup [(eC e).a,.d (.bool (lN x e))]) []:=by
 have hs:=gL (VH x hx ht (eC e))
 have hex:=gL (XB (eC e))
 have hsm:=gL (BJ (SizeOf.sizeOf (eC e).ex+1) (eC e).ex e (by omega) (aCf _))
 unfold lN
 have hcl:=Ex.clen (eC e).ex
 have hct:=Ex.ctake (eC e).ex
 generalize mW x (eC e)=S at *
 generalize hE:(eC e).ex=E at *
 generalize E.eq e=Q at *
 obtain ⟨o,c,n,t,g,ks⟩:=e
 refine aD cF (fn:=Tryz.f265) (by kernel_rfl) rfl (by kernel_rfl) (by decide) (by simp) ?_
 by_cases h5:o=5
 ·subst h5
  have hc:eC (.mk 5 c n t g ks)=⟨g,5,nulV⟩:=by simp [eC]
  rw [hc] at hs hex ⊢
  simp [Ex.a,Ex.c,aC,At.a,At.c,nulV,Tb.a,Tb.c] at hs hex hsm ⊢
  (repeat' first|contradiction|exact .ok|apply And.intro|intro _|(apply gc<;>simp+contextual))
  refine aA hs (by simp) ?_
  cases S with
  | false =>
    simp
    all_goals exact gz
  | true =>
    simp
    (repeat' first|contradiction|exact .ok|apply And.intro|intro _|(apply gc<;>simp+contextual))
    refine aA hex (by simp) ?_
    simp [hcl,hct]
    refine aA hsm (by simp [hct]) ?_
    simp
    all_goals exact gz
 ·match ks,hq with
  | [],hq =>
    have hc:eC (.mk o c n t g [])=⟨0,o,nulV⟩:=by simp [eC,h5]
    rw [hc] at hs hex ⊢
    simp [h5,Ex.a,Ex.c,aC,At.a,At.c,nulV,Tb.a,Tb.c] at hs hex hsm ⊢
    (repeat' first|contradiction|exact .ok|apply And.intro|intro _|(apply gc<;>simp+contextual[h5]))
    refine aA hs (by simp) ?_
    cases S with
    | false =>
      simp
      all_goals exact gz
    | true =>
      simp
      (repeat' first|contradiction|exact .ok|apply And.intro|intro _|(apply gc<;>simp+contextual))
      refine aA hex (by simp) ?_
      simp [hcl,hct]
      refine aA hsm (by simp [hct]) ?_
      simp
      all_goals exact gz
  | [k],hq =>
    have hc:eC (.mk o c n t g [k])=⟨KW k,o,nulV⟩:=by simp [eC,h5]
    rw [hc] at hs hex ⊢
    obtain ⟨ko,kc,kn,kt,kg,kk⟩:=k
    simp [h5,Ex.a,Ex.c,aC,At.a,At.c,nulV,Tb.a,Tb.c,KW] at hs hex hsm ⊢
    (repeat' first|contradiction|exact .ok|apply And.intro|intro _|(apply gc<;>simp+contextual[h5]))
    refine aA hs (by simp) ?_
    cases S with
    | false =>
      simp
      all_goals exact gz
    | true =>
      simp
      (repeat' first|contradiction|exact .ok|apply And.intro|intro _|(apply gc<;>simp+contextual))
      refine aA hex (by simp) ?_
      simp [hcl,hct]
      refine aA hsm (by simp [hct]) ?_
      simp
      all_goals exact gz
  | [k,u],hq =>
    obtain ⟨_,_,hfew⟩:=iN hq
    have hfu:u.few (q+1)=true:=hfew u (by simp)
    have hev:=upo (GM [] (by simp) (SizeOf.sizeOf u+1) u (by omega) (q+1) hfu)
    have hc:eC (.mk o c n t g [k,u])=⟨KW k,o,vlE u⟩:=by simp [eC,h5]
    rw [hc] at hs hex ⊢
    unfold vlE at hs hex ⊢
    obtain ⟨ko,kc,kn,kt,kg,kk⟩:=k
    have hul:=Ex.clen u
    have hut:=Ex.ctake u
    generalize aI u []=W at *
    obtain ⟨uo,uc,un,ut,ug,uk⟩:=u
    by_cases u2:uo=2
    ·subst u2
     simp [h5,MC,Ex.a,Ex.c,aC,At.a,At.c,nulV,Tb.a,Tb.c,KW] at hs hex hsm hev ⊢
     (repeat' first|contradiction|exact .ok|apply And.intro|intro _|(apply gc<;>simp+contextual[h5]))
     refine aA hev (by simp) ?_
     simp [V.a]
     (repeat' first|contradiction|exact .ok|apply And.intro|intro _|(apply gc<;>simp+contextual))
     refine aA hs (by simp) ?_
     cases S with
     | false =>
       simp
       all_goals exact gz
     | true =>
       simp
       (repeat' first|contradiction|exact .ok|apply And.intro|intro _|(apply gc<;>simp+contextual))
       refine aA hex (by simp) ?_
       simp [hcl,hct]
       refine aA hsm (by simp [hct]) ?_
       simp
       all_goals exact gz
    ·by_cases u3:uo=3
     ·subst u3
      simp [h5,MC,Ex.a,Ex.c,aC,At.a,At.c,nulV,Tb.a,Tb.c,KW] at hs hex hsm hev ⊢
      (repeat' first|contradiction|exact .ok|apply And.intro|intro _|(apply gc<;>simp+contextual[h5]))
      refine aA hev (by simp) ?_
      simp [V.a]
      (repeat' first|contradiction|exact .ok|apply And.intro|intro _|(apply gc<;>simp+contextual))
      refine aA hs (by simp) ?_
      cases S with
      | false =>
        simp
        all_goals exact gz
      | true =>
        simp
        (repeat' first|contradiction|exact .ok|apply And.intro|intro _|(apply gc<;>simp+contextual))
        refine aA hex (by simp) ?_
        simp [hcl,hct]
        refine aA hsm (by simp [hct]) ?_
        simp
        all_goals exact gz
     ·by_cases u4:uo=4
      ·subst u4
       simp [h5,MC,Ex.a,Ex.c,aC,At.a,At.c,nulV,Tb.a,Tb.c,KW] at hs hex hsm hev ⊢
       (repeat' first|contradiction|exact .ok|apply And.intro|intro _|(apply gc<;>simp+contextual[h5]))
       refine aA hev (by simp) ?_
       simp [V.a]
       (repeat' first|contradiction|exact .ok|apply And.intro|intro _|(apply gc<;>simp+contextual))
       refine aA hs (by simp) ?_
       cases S with
       | false =>
         simp
         all_goals exact gz
       | true =>
         simp
         (repeat' first|contradiction|exact .ok|apply And.intro|intro _|(apply gc<;>simp+contextual))
         refine aA hex (by simp) ?_
         simp [hcl,hct]
         refine aA hsm (by simp [hct]) ?_
         simp
         all_goals exact gz
      ·have hno:¬ (uo=2∨uo=3∨uo=4):=by omega
       simp only [MC,hno,if_false] at hs hex ⊢
       simp [h5,u2,u3,u4,MC,Ex.a,Ex.c,aC,At.a,At.c,nulV,Tb.a,Tb.c,KW] at hs hex hsm ⊢
       (repeat' first|contradiction|exact .ok|apply And.intro|intro _|(apply gc<;>simp+contextual[h5,u2,u3,u4]))
       refine aA hs (by simp) ?_
       cases S with
       | false =>
         simp
         all_goals exact gz
       | true =>
         simp
         (repeat' first|contradiction|exact .ok|apply And.intro|intro _|(apply gc<;>simp+contextual))
         refine aA hex (by simp) ?_
         simp [hcl,hct]
         refine aA hsm (by simp [hct]) ?_
         simp
         all_goals exact gz
  | k::u::v::r,hq =>
    have hc:eC (.mk o c n t g (k::u::v::r))=⟨0,o,nulV⟩:=by simp [eC,h5]
    have l1:¬ ((r.length:Int)+1+1+1=1):=by omega
    have l2:¬ ((r.length:Int)+1+1+1=2):=by omega
    rw [hc] at hs hex ⊢
    simp [h5,l1,l2,Ex.a,Ex.c,aC,At.a,At.c,nulV,Tb.a,Tb.c] at hs hex hsm ⊢
    (repeat' first|contradiction|exact .ok|apply And.intro|intro _|(apply gc<;>simp+contextual[h5,l1,l2]))
    refine aA hs (by simp) ?_
    cases S with
    | false =>
      simp
      all_goals exact gz
    | true =>
      simp
      (repeat' first|contradiction|exact .ok|apply And.intro|intro _|(apply gc<;>simp+contextual))
      refine aA hex (by simp) ?_
      simp [hcl,hct]
      refine aA hsm (by simp [hct]) ?_
      simp
      all_goals exact gz
theorem PB (e:Ex) (q:Nat) (hq:e.few q=true):Cf En 281 [e.a] [] (vlR e).a []:=by
 have he:=qK [] (by simp) (SizeOf.sizeOf e+1) e (by omega) q hq
 unfold vlR
 have hl:=Ex.clen e
 have ht:=Ex.ctake e
 generalize aI e []=W at *
 obtain ⟨o,c,n,t,g,ks⟩:=e
 refine aD aW (fn:=Tryz.f281) (by kernel_rfl) rfl (by kernel_rfl) (by decide) (by simp) ?_
 cases ks with
 | cons k r =>
   have hk:¬ ((r.length:Int)+1=0):=by omega
   simp [Ex.kids,hk,Ex.a,Ex.c,aC,nulV,V.a]
   (repeat' first|contradiction|exact .ok|apply And.intro|intro _|(apply gc<;>simp+contextual[hk]))
 | nil =>
   by_cases o2:o=2
   ·subst o2
    simp [Ex.kids,MC,Ex.a,Ex.c,cA,V.a] at he ⊢
    (repeat' first|contradiction|exact .ok|apply And.intro|intro _|(apply gc<;>simp+contextual))
    refine aA he (by simp) ?_
    simp
    all_goals exact gz
   ·by_cases o3:o=3
    ·subst o3
     simp [Ex.kids,MC,Ex.a,Ex.c,cA,V.a] at he ⊢
     (repeat' first|contradiction|exact .ok|apply And.intro|intro _|(apply gc<;>simp+contextual))
     refine aA he (by simp) ?_
     simp
     all_goals exact gz
    ·by_cases o4:o=4
     ·subst o4
      simp [Ex.kids,MC,Ex.a,Ex.c,cA,V.a] at he ⊢
      (repeat' first|contradiction|exact .ok|apply And.intro|intro _|(apply gc<;>simp+contextual))
      refine aA he (by simp) ?_
      simp
      all_goals exact gz
     ·simp [Ex.kids,MC,o2,o3,o4,Ex.a,Ex.c,cA,V.a,nulV]
      (repeat' first|contradiction|exact .ok|apply And.intro|intro _|(apply gc<;>simp+contextual[o2,o3,o4]))
structure Vw where
 tb:List UInt8
 path:List Int
 cond:List Ex
def Vw.c (v:Vw):List D:=[.str v.tb,.sl (aG v.path),.sl (v.cond.map Ex.c)]
def Vw.a (v:Vw):AV:=.agg (v.c.map AV.d)
def eU (S:List Tb) (k:Nat) (f:Int):Option Nat:=if 0≤f then match (aV S k).fk[f.toNat]? with
 | some g=>if 0≤iB S g then some (lG S g) else none
 | none=>none
 else none
def HS (S:List Tb):Nat→List Int→Option (List Nat)
 | _,[]=>some []
 | k,f::r=>match eU S k f with
   | some m=>(HS S m r).map (m::·)
   | none=>none
def lW (S:List Tb) (n:List UInt8):Int:=aY (fun x:Tb=>x.n==n) S 0
def dY (S:List Tb) (v:Vw):Option (List Nat):=if 0≤lW S v.tb then (HS S (lW S v.tb).toNat v.path).map ((lW S v.tb).toNat::·) else none
def mZ (o:Option (List Nat)):AV:=match o with
 | some l=>.tup [.d (.sl (aG (aO l))),.d (.bool true)]
 | none=>.tup [.d (.sl []),.d (.bool false)]
theorem MB {S:List Tb} {k m:Nat} {f:Int} (h:eU S k f=some m):m<S.length:=by
 unfold eU at h
 split at h
 ·split at h
  ·rename_i g _
   split at h
   ·rename_i h0
    cases h
    have:=qZ (p:=fun x:Tb=>x.n==g.t) (l:=S) (i:=0)
    unfold lG iB at *
    omega
   ·cases h
  ·cases h
 ·cases h
theorem VQ (S:List Tb) (hl:S.length≤1000) (hS:∀ x∈S,x.ok) {k:Nat} (hk:k<S.length) (f:Int) :
  Cf En 122 [aR S,.d (.int .i64 k),.d (.int .i64 f)] [] (match eU S k f with | some m=>.tup [.d (.int .i64 m),.d (.bool true)] | none=>.tup [.d (.int .i64 0),.d (.bool false)]) []:=by
 have htab:aV S k=S[k]:=by unfold aV; rw [List.getElem?_eq_getElem hk]; rfl
 have hfk:=(hS S[k] (List.getElem_mem hk)).fk
 by_cases h0:0≤f
 ·by_cases hlt:f.toNat<S[k].fk.length
  ·have hgf:(aV S k).fk[f.toNat]?=some S[k].fk[f.toNat]:=by rw [htab,List.getElem?_eq_getElem hlt]
   have h:=aAC S hl hS hk rfl hlt rfl
   rw [Int.toNat_of_nonneg h0] at h
   unfold eU
   rw [if_pos h0,hgf]
   simp only
   unfold place at h
   by_cases ht:0≤iB S S[k].fk[f.toNat]
   ·rw [if_pos ht]
    have e:aY (fun x:Tb=>x.n==S[k].fk[f.toNat].t) S 0=(lG S S[k].fk[f.toNat]:Int):=by
     have:aY (fun x:Tb=>x.n==S[k].fk[f.toNat].t) S 0=iB S S[k].fk[f.toNat]:=rfl
     rw [this]; unfold lG; omega
    have:=cW e
    unfold place at this
    rw [this] at h
    exact h
   ·rw [if_neg ht]
    have e:aY (fun x:Tb=>x.n==S[k].fk[f.toNat].t) S 0<0:=by
     have:aY (fun x:Tb=>x.n==S[k].fk[f.toNat].t) S 0=iB S S[k].fk[f.toNat]:=rfl
     rw [this]; omega
    have e1:max (aY (fun x:Tb=>x.n==S[k].fk[f.toNat].t) S 0) 0=0:=by omega
    have e2:decide (0≤aY (fun x:Tb=>x.n==S[k].fk[f.toNat].t) S 0)=false:=by simp; omega
    rw [e1,e2] at h
    exact h
  ·have hn:(aV S k).fk[f.toNat]?=none:=by rw [htab]; exact List.getElem?_eq_none (by omega)
   have hs:eU S k f=none:=by unfold eU; rw [if_pos h0,hn]
   rw [hs]
   refine aD aW (fn:=Tryz.f122) (by kernel_rfl) rfl (by kernel_rfl) (by decide) (by simp) ?_
   have h1:¬ (k:Int)<0:=by omega
   have h2:¬ f<0:=by omega
   have h3:¬ (S.length:Int)≤k:=by omega
   have h4:(S[k].fk.length:Int)≤f:=by omega
   simp [aR,h1,h2,h3,hk,Tb.c,h4]
   (repeat' first|contradiction|exact .ok|apply And.intro|intro _|(apply gc<;>simp+contextual[h1,h2,h3,hk,Tb.c,h4]))
 ·have hs:eU S k f=none:=by unfold eU; rw [if_neg h0]
  rw [hs]
  refine aD aW (fn:=Tryz.f122) (by kernel_rfl) rfl (by kernel_rfl) (by decide) (by simp) ?_
  have h1:¬ (k:Int)<0:=by omega
  have h2:f<0:=by omega
  have h3:¬ (S.length:Int)≤k:=by omega
  simp [aR,h1,h2,h3,hk,Tb.c]
  (repeat' first|contradiction|exact .ok|apply And.intro|intro _|(apply gc<;>simp+contextual[h1,h2,h3,hk,Tb.c]))
def aCW (S:List Tb) (k0:Nat) (path:List Int) (y:Nat×List Nat×Nat):Prop:=y.1≤path.length∧y.2.1.length=y.1∧y.2.2<S.length∧HS S k0 path=(HS S y.2.2 (path.drop y.1)).map (y.2.1++·)
theorem SF {S:List Tb} {k0:Nat} {path:List Int} {y:Nat×List Nat×Nat} (h:aCW S k0 path y) (hl:y.1<path.length) :
  (eU S y.2.2 path[y.1]=none→HS S k0 path=none)∧∀ m,eU S y.2.2 path[y.1]=some m→aCW S k0 path (y.1+1,y.2.1++[m],m):=by
 obtain ⟨i,l,k⟩:=y
 obtain ⟨h1,h2,h3,h4⟩:=h
 simp only at hl h1 h2 h3 h4 ⊢
 rw [List.drop_eq_getElem_cons hl,HS] at h4
 refine ⟨fun hn=>?_,fun m hm=>⟨by simp only; omega,by simp [h2],MB hm,?_⟩⟩
 ·rw [hn] at h4
  simpa using h4
 ·rw [hm] at h4
  simp only at h4 ⊢
  rw [h4,Option.map_map]
  congr 1
  funext z
  simp
theorem cV (l:List Nat):(aG (aO l)).length=l.length:=by simp [aG,aO]
theorem gW (S:List Tb) (hl:S.length≤1000) (hS:∀ x∈S,x.ok) (v:Vw) (hv:v.path.length≤50000) :
  Cf En 57 [aR S,v.a] [] (mZ (dY S v)) []:=by
 refine aD aW (fn:=Tryz.f57) (by kernel_rfl) rfl (by kernel_rfl) (by decide) (by simp) ?_
 have hfi:=wA S hl v.tb
 have hub:=qZ (p:=fun x:Tb=>x.n==v.tb) (l:=S) (i:=0)
 unfold dY lW
 by_cases h0:0≤aY (fun x:Tb=>x.n==v.tb) S 0
 ·obtain ⟨k0,hk0⟩:∃ k:Nat,aY (fun x:Tb=>x.n==v.tb) S 0=k:=⟨(aY (fun x:Tb=>x.n==v.tb) S 0).toNat,by omega⟩
  rw [cW hk0] at hfi
  rw [hk0]
  have hk:k0<S.length:=by omega
  have hif:(0:Int)≤(k0:Int):=by omega
  rw [if_pos hif,Int.toNat_natCast]
  simp [aR,Vw.a,Vw.c]
  (repeat' first|contradiction|exact .ok|apply And.intro|intro _|(apply gc<;>simp+contextual))
  refine aA hfi (by simp [aR]) ?_
  simp
  (repeat' first|contradiction|exact .ok|apply And.intro|intro _|(apply gc<;>simp+contextual))
  refine aL aW (by decide) (fun y:Nat×List Nat×Nat=>{ s:=cG [(2,.ptr 2 0 0),(6,.d (.int .i64 y.2.2)),(8,.ref 908 0 (y.1+1) 1),(23,.d (.sl (aG v.path))),(24,.d (.int .i64 v.path.length)),(25,.d (.int .i64 y.1))],b:=cE [(2,2,.var [.d (.sl (S.map Tb.c))]),(908,908,.arr 3 1 (aG (aO (k0::y.2.1))) false)] })
   (aCW S k0 v.path) (fun y=>v.path.length - y.1) (0,[],k0) ⟨by simp,rfl,hk,by simp⟩
   (aE _ [(2,2,_),(908,21,_)] ⟨by simp,by simp,by simp [aB,Blk.live,aG,aO],by simp⟩ (by simp [aB])) ?_
  rintro ⟨i,l,k⟩ hI
  have hst:=SF hI
  obtain ⟨i1,i2,i3,i4⟩:=hI
  simp only at i1 i2 i3 i4 hst
  have hll:=cV (k0::l)
  by_cases hlt:i<v.path.length
  ·obtain ⟨s1,s2⟩:=hst hlt
   have hta:=VQ S hl hS i3 v.path[i]
   have hw:=aH (n:=(i:Int)+1) (by omega) (by omega)
   generalize hf:v.path[i]=f at *
   have hgf:∀ h,v.path[i]'h=f:=fun _=>hf
   cases hs:eU S k f with
   | none =>
     rw [hs] at hta
     rw [s1 hs]
     simp [hlt,hgf]
     (repeat' first|contradiction|exact .ok|apply And.intro|intro _|(apply gc<;>simp+contextual))
     refine aA hta (by simp [aR]) ?_
     simp [mZ]
     all_goals exact gz
   | some m =>
     rw [hs] at hta
     have hn:=s2 m hs
     have htk:(aG (aO (k0::l))).take (i+1)=aG (aO (k0::l)):=List.take_of_length_le (by rw [hll]; simp [i2])
     have happ:aG (aO (k0::(l++[m])))=aG (aO (k0::l))++[[.int .i64 m]]:=by simp [aG,aO]
     have hlen:(aG (aO (k0::l))).length=i+1:=by rw [hll]; simp [i2]
     generalize aG (aO (k0::l))=Z at *
     simp [hlt,hgf]
     (repeat' first|contradiction|exact .ok|apply And.intro|intro _|(apply gc<;>simp+contextual))
     refine aA hta (by simp [aR]) ?_
     simp [hlen,htk,eI (i+1) (by omega) 8 (by decide),eI (i+1+1) (by omega) 8 (by decide)]
     (repeat' first|contradiction|exact .ok|apply And.intro|intro _|(apply gc<;>simp+contextual))
     refine ⟨(i+1,l++[m],m),hn,?_,by simp; omega⟩
     simp only [happ]
     exact aE _ [(2,2,_),(908,41,_)] ⟨by simp,by simp,by simp [aB,Blk.live],by simp⟩ (by simp [aB,hw])
  obtain rfl:i=v.path.length:=by omega
  have hfin:HS S k0 v.path=some l:=by rw [i4,List.drop_length,HS]; simp
  have htk:(aG (aO (k0::l))).take (v.path.length+1)=aG (aO (k0::l)):=List.take_of_length_le (by rw [hll]; simp [i2])
  have hlen:(aG (aO (k0::l))).length=v.path.length+1:=by rw [hll]; simp [i2]
  rw [hfin]
  simp only [Option.map_some,mZ]
  generalize aG (aO (k0::l))=Z at *
  simp [hlen,htk]
  all_goals exact gz
 ·rw [if_neg h0]
  unfold place at hfi
  have e1:max (aY (fun x:Tb=>x.n==v.tb) S 0) 0=0:=by omega
  have e2:decide (0≤aY (fun x:Tb=>x.n==v.tb) S 0)=false:=by simp; omega
  rw [e1,e2] at hfi
  simp [aR,Vw.a,Vw.c]
  (repeat' first|contradiction|exact .ok|apply And.intro|intro _|(apply gc<;>simp+contextual))
  refine aA hfi (by simp [aR]) ?_
  simp [mZ]
  all_goals exact gz
theorem BI (S:List Tb) (hl:S.length≤1000) (hS:∀ x∈S,x.ok) {k:Nat} (hk:k<S.length) (f:Int) :
  Cf En 49 [aR S,.d (.int .i64 k),.d (.int .i64 f)] [] (match eU S k f with | some m=>.tup [.d (.int .i64 m),.d (.bool true)] | none=>.tup [.d (.int .i64 0),.d (.bool false)]) []:=by
 have htab:aV S k=S[k]:=by unfold aV; rw [List.getElem?_eq_getElem hk]; rfl
 have hfk:=(hS S[k] (List.getElem_mem hk)).fk
 by_cases h0:0≤f
 ·by_cases hlt:f.toNat<S[k].fk.length
  ·have hgf:(aV S k).fk[f.toNat]?=some S[k].fk[f.toNat]:=by rw [htab,List.getElem?_eq_getElem hlt]
   have h:=kU S hl hS hk rfl hlt rfl
   rw [Int.toNat_of_nonneg h0] at h
   unfold eU
   rw [if_pos h0,hgf]
   simp only
   unfold place at h
   by_cases ht:0≤iB S S[k].fk[f.toNat]
   ·rw [if_pos ht]
    have e:aY (fun x:Tb=>x.n==S[k].fk[f.toNat].t) S 0=(lG S S[k].fk[f.toNat]:Int):=by
     have:aY (fun x:Tb=>x.n==S[k].fk[f.toNat].t) S 0=iB S S[k].fk[f.toNat]:=rfl
     rw [this]; unfold lG; omega
    have:=cW e
    unfold place at this
    rw [this] at h
    exact h
   ·rw [if_neg ht]
    have e:aY (fun x:Tb=>x.n==S[k].fk[f.toNat].t) S 0<0:=by
     have:aY (fun x:Tb=>x.n==S[k].fk[f.toNat].t) S 0=iB S S[k].fk[f.toNat]:=rfl
     rw [this]; omega
    have e1:max (aY (fun x:Tb=>x.n==S[k].fk[f.toNat].t) S 0) 0=0:=by omega
    have e2:decide (0≤aY (fun x:Tb=>x.n==S[k].fk[f.toNat].t) S 0)=false:=by simp; omega
    rw [e1,e2] at h
    exact h
  ·have hn:(aV S k).fk[f.toNat]?=none:=by rw [htab]; exact List.getElem?_eq_none (by omega)
   have hs:eU S k f=none:=by unfold eU; rw [if_pos h0,hn]
   rw [hs]
   refine aD aW (fn:=Tryz.f49) (by kernel_rfl) rfl (by kernel_rfl) (by decide) (by simp) ?_
   have h1:¬ (k:Int)<0:=by omega
   have h2:¬ f<0:=by omega
   have h3:¬ (S.length:Int)≤k:=by omega
   have h4:(S[k].fk.length:Int)≤f:=by omega
   simp [aR,h1,h2,h3,hk,Tb.c,h4]
   (repeat' first|contradiction|exact .ok|apply And.intro|intro _|(apply gc<;>simp+contextual[h1,h2,h3,hk,Tb.c,h4]))
 ·have hs:eU S k f=none:=by unfold eU; rw [if_neg h0]
  rw [hs]
  refine aD aW (fn:=Tryz.f49) (by kernel_rfl) rfl (by kernel_rfl) (by decide) (by simp) ?_
  have h1:¬ (k:Int)<0:=by omega
  have h2:f<0:=by omega
  have h3:¬ (S.length:Int)≤k:=by omega
  simp [aR,h1,h2,h3,hk,Tb.c]
  (repeat' first|contradiction|exact .ok|apply And.intro|intro _|(apply gc<;>simp+contextual[h1,h2,h3,hk,Tb.c]))
theorem lP (S:List Tb) (hl:S.length≤1000) (hS:∀ x∈S,x.ok) (v:Vw) (hv:v.path.length≤50000) :
  Cf En 20 [aR S,v.a] [] (mZ (dY S v)) []:=by
 refine aD aW (fn:=Tryz.f20) (by kernel_rfl) rfl (by kernel_rfl) (by decide) (by simp) ?_
 have hfi:=oV S hl v.tb
 have hub:=qZ (p:=fun x:Tb=>x.n==v.tb) (l:=S) (i:=0)
 unfold dY lW
 by_cases h0:0≤aY (fun x:Tb=>x.n==v.tb) S 0
 ·obtain ⟨k0,hk0⟩:∃ k:Nat,aY (fun x:Tb=>x.n==v.tb) S 0=k:=⟨(aY (fun x:Tb=>x.n==v.tb) S 0).toNat,by omega⟩
  rw [cW hk0] at hfi
  rw [hk0]
  have hk:k0<S.length:=by omega
  have hif:(0:Int)≤(k0:Int):=by omega
  rw [if_pos hif,Int.toNat_natCast]
  simp [aR,Vw.a,Vw.c]
  (repeat' first|contradiction|exact .ok|apply And.intro|intro _|(apply gc<;>simp+contextual))
  refine aA hfi (by simp [aR]) ?_
  simp
  (repeat' first|contradiction|exact .ok|apply And.intro|intro _|(apply gc<;>simp+contextual))
  refine aL aW (by decide) (fun y:Nat×List Nat×Nat=>{ s:=cG [(2,.ptr 2 0 0),(3,.ptr 3 0 0),(8,.ref 908 0 (y.1+1) 1),(9,.d (.int .i64 y.1))],b:=cE [(2,2,.var [.d (.sl (S.map Tb.c))]),(3,3,.var (v.c.map AV.d)),(908,908,.arr 3 1 (aG (aO (k0::y.2.1))) false)] })
   (fun y=>aCW S k0 v.path y∧(k0::y.2.1)[y.1]?=some y.2.2) (fun y=>v.path.length - y.1) (0,[],k0) ⟨⟨by simp,rfl,hk,by simp⟩,by simp⟩
   (aE _ [(2,2,_),(3,3,_),(908,22,_)] ⟨by simp,by simp,by simp [aB,Blk.live,aG,aO,Vw.c],by simp⟩ (by simp [aB])) ?_
  rintro ⟨i,l,k⟩ ⟨hI,hlast⟩
  have hst:=SF hI
  obtain ⟨i1,i2,i3,i4⟩:=hI
  simp only at i1 i2 i3 i4 hst hlast
  have hll:=cV (k0::l)
  by_cases hlt:i<v.path.length
  ·obtain ⟨s1,s2⟩:=hst hlt
   have hta:=BI S hl hS i3 v.path[i]
   have hw:=aH (n:=(i:Int)+1) (by omega) (by omega)
   generalize hf:v.path[i]=f at *
   have hgf:∀ h,v.path[i]'h=f:=fun _=>hf
   have hcell:(aG (aO (k0::l)))[i]?=some [.int .i64 k]:=by
    unfold aG aO
    rw [List.map_map,List.getElem?_map,hlast]; rfl
   have hgc:∀ h,(aG (aO (k0::l)))[i]'h=[.int .i64 k]:=fun h=>by
    rw [List.getElem?_eq_getElem h] at hcell; exact Option.some.inj hcell
   cases hs:eU S k f with
   | none =>
     rw [hs] at hta
     rw [s1 hs]
     generalize aG (aO (k0::l))=Z at *
     simp [hlt,hgf,Vw.c,hgc,hcell,hll,i2]
     (repeat' first|contradiction|exact .ok|apply And.intro|intro _|(apply gc<;>simp+contextual))
     refine aA hta (by simp [aR]) ?_
     simp [mZ]
     all_goals exact gz
   | some m =>
     rw [hs] at hta
     have hn:=s2 m hs
     have htk:(aG (aO (k0::l))).take (i+1)=aG (aO (k0::l)):=List.take_of_length_le (by rw [hll]; simp [i2])
     have happ:aG (aO (k0::(l++[m])))=aG (aO (k0::l))++[[.int .i64 m]]:=by simp [aG,aO]
     have hlen:(aG (aO (k0::l))).length=i+1:=by rw [hll]; simp [i2]
     have hl2:(k0::(l++[m]))[i+1]?=some m:=by
      rw [List.getElem?_cons_succ,List.getElem?_append_right (by omega),i2]; simp
     generalize aG (aO (k0::l))=Z at *
     simp [hlt,hgf,Vw.c,hgc,hcell,hlen]
     (repeat' first|contradiction|exact .ok|apply And.intro|intro _|(apply gc<;>simp+contextual))
     refine aA hta (by simp [aR]) ?_
     simp [hlen,htk,eI (i+1) (by omega) 8 (by decide),eI (i+1+1) (by omega) 8 (by decide)]
     (repeat' first|contradiction|exact .ok|apply And.intro|intro _|(apply gc<;>simp+contextual))
     refine ⟨(i+1,l++[m],m),⟨hn,hl2⟩,?_,by simp; omega⟩
     simp only [happ]
     exact aE _ [(2,2,_),(3,3,_),(908,49,_)] ⟨by simp,by simp,by simp [aB,Blk.live,Vw.c],by simp⟩ (by simp [aB,hw])
  obtain rfl:i=v.path.length:=by omega
  have hfin:HS S k0 v.path=some l:=by rw [i4,List.drop_length,HS]; simp
  have htk:(aG (aO (k0::l))).take (v.path.length+1)=aG (aO (k0::l)):=List.take_of_length_le (by rw [hll]; simp [i2])
  have hlen:(aG (aO (k0::l))).length=v.path.length+1:=by rw [hll]; simp [i2]
  rw [hfin]
  simp only [Option.map_some,mZ]
  generalize aG (aO (k0::l))=Z at *
  simp [hlen,htk,Vw.c]
  all_goals exact gz
 ·rw [if_neg h0]
  unfold place at hfi
  have e1:max (aY (fun x:Tb=>x.n==v.tb) S 0) 0=0:=by omega
  have e2:decide (0≤aY (fun x:Tb=>x.n==v.tb) S 0)=false:=by simp; omega
  rw [e1,e2] at hfi
  simp [aR,Vw.a,Vw.c]
  (repeat' first|contradiction|exact .ok|apply And.intro|intro _|(apply gc<;>simp+contextual))
  refine aA hfi (by simp [aR]) ?_
  simp [mZ]
  all_goals exact gz
def bU (S:List Tb) (l:List Nat):List Col:=l.flatMap fun k=>(aV S k).cols
def gP (S:List Tb) (i:Nat):List Nat→Int→Int×Int×Bool
 | [],_=>(0,0,false)
 | k::r,c=>if c<(aV S k).cols.length then ((i:Int),c,decide (0≤c)) else gP S (i+1) r (c - (aV S k).cols.length)
theorem wK (S:List Tb) (hS:∀ x∈S,x.ok) (l:List Nat) (hl:l.length≤100000) (hr:∀ k∈l,k<S.length) (c:Int) (hc:c<9223372036854775807) :
  Cf En 192 [aR S,.d (.sl (aG (aO l))),.d (.int .i64 c)] [] (.tup [.d (.int .i64 (gP S 0 l c).1),.d (.int .i64 (gP S 0 l c).2.1),.d (.bool (gP S 0 l c).2.2)]) []:=by
 refine aD aW (fn:=Tryz.f192) (by kernel_rfl) rfl (by kernel_rfl) (by decide) (by simp) ?_
 have hnl:=cV l
 have hga:∀ i (h:i<l.length),∀ h',(aG (aO l))[i]'h'=[.int .i64 (l[i]:Int)]:=fun i h h'=>by simp [aG,aO]
 generalize hZ:aG (aO l)=Z at *
 simp [aR,hnl]
 (repeat' first|contradiction|exact .ok|apply And.intro|intro _|(apply gc<;>simp+contextual))
 refine aL aW (by decide) (fun y:Nat×Int=>{ s:=cG [(2,.d (.int .i64 y.2)),(3,.ptr 3 0 0),(12,.d (.sl Z)),(13,.d (.int .i64 l.length)),(14,.d (.int .i64 y.1))],b:=cE [(3,3,.var [.d (.sl (S.map Tb.c))])] })
  (fun y=>y.1≤l.length∧y.2<9223372036854775807∧gP S 0 l c=gP S y.1 (l.drop y.1) y.2) (fun y=>l.length - y.1) (0,c) ⟨by simp,hc,by simp⟩
  (aE _ [(3,3,_)] ⟨by simp,by simp,by simp [aB,Blk.live],by simp⟩ (by simp [aB,hnl])) ?_
 rintro ⟨i,d⟩ ⟨hi,hd,hp⟩
 simp only at hi hd hp
 by_cases hlt:i<l.length
 ·have hw:=aH (n:=(i:Int)+1) (by omega) (by omega)
  have hk:=hr l[i] (List.getElem_mem hlt)
  rw [List.drop_eq_getElem_cons hlt,gP] at hp
  have htab:aV S l[i]=S[l[i]]:=by unfold aV; rw [List.getElem?_eq_getElem hk]; rfl
  rw [htab] at hp
  have hcl:=(hS _ (List.getElem_mem hk)).cols
  have hgl:=hga i hlt
  have hiZ:i<Z.length:=by omega
  generalize hkk:l[i]=k at *
  obtain ⟨x,hx⟩:∃ x,x=S[k]:=⟨_,rfl⟩
  have hgx:∀ h,S[k]'h=x:=fun _=>hx.symm
  rw [← hx] at hp hcl
  by_cases hdc:d<x.cols.length
  ·rw [if_pos hdc] at hp
   rw [hp]
   simp [hlt,hiZ,hgl,hk,hgx,Tb.c,hdc]
   (repeat' first|contradiction|exact .ok|apply And.intro|intro _|(apply gc<;>simp+contextual[hdc]))
  ·rw [if_neg hdc] at hp
   have hwd:=aH (n:=d - x.cols.length) (by omega) (by omega)
   simp [hlt,hiZ,hgl,hk,hgx,Tb.c,hdc]
   (repeat' first|contradiction|exact .ok|apply And.intro|intro _|(apply gc<;>simp+contextual[hdc]))
   refine ⟨(i+1,d - x.cols.length),⟨by simp only; omega,by simp only; omega,hp⟩,?_,by simp; omega⟩
   exact aE _ [(3,3,_)] ⟨by simp,by simp,by simp [aB,Blk.live],by simp⟩ (by simp [aB,hw,hwd])
 obtain rfl:i=l.length:=by omega
 rw [List.drop_length,gP] at hp
 rw [hp]
 simp
 all_goals exact gz
def SE (S:List Tb) (v:Vw):List Col:=match dY S v with
 | some l=>bU S l
 | none=>[]
theorem aAR {S:List Tb}:∀ {path:List Int} {k:Nat} {l:List Nat},HS S k path=some l→(∀ m∈l,m<S.length)∧l.length=path.length
 | [],k,l,h=>by
   simp only [HS,Option.some.injEq] at h
   subst h
   simp
 | f::r,k,l,h=>by
   rw [HS] at h
   split at h
   ·rename_i m hm
    rw [Option.map_eq_some_iff] at h
    obtain ⟨l',h1,rfl⟩:=h
    obtain ⟨a,b⟩:=aAR h1
    refine ⟨fun q hq=>?_,by simp [b]⟩
    rcases List.mem_cons.1 hq with rfl | hq
    ·exact MB hm
    ·exact a q hq
   ·cases h
theorem dI {S:List Tb} {v:Vw} {l:List Nat} (h:dY S v=some l):(∀ m∈l,m<S.length)∧l.length=v.path.length+1:=by
 unfold dY at h
 split at h
 ·rename_i h0
  rw [Option.map_eq_some_iff] at h
  obtain ⟨l',h1,rfl⟩:=h
  obtain ⟨a,b⟩:=aAR h1
  have:=qZ (p:=fun x:Tb=>x.n==v.tb) (l:=S) (i:=0)
  refine ⟨fun q hq=>?_,by simp [b]⟩
  rcases List.mem_cons.1 hq with rfl | hq
  ·unfold lW at *; omega
  ·exact a q hq
 ·cases h
theorem MA (S:List Tb) (hl:S.length≤1000) (hS:∀ x∈S,x.ok) (v:Vw) (hv:v.path.length≤50) :
  Cf En 119 [aR S,v.a] [] (.d (.sl ((SE S v).map Col.c))) []:=by
 refine aD aW (fn:=Tryz.f119) (by kernel_rfl) rfl (by kernel_rfl) (by decide) (by simp) ?_
 have ht:=gW S hl hS v (by omega)
 unfold SE
 cases hc:dY S v with
 | none =>
   rw [hc] at ht
   simp [aR,Vw.a,Vw.c] at ht ⊢
   (repeat' first|contradiction|exact .ok|apply And.intro|intro _|(apply gc<;>simp+contextual))
   refine aA ht (by simp [Vw.a,Vw.c]) ?_
   simp [mZ]
   (repeat' first|contradiction|exact .ok|apply And.intro|intro _|(apply gc<;>simp+contextual))
   refine aL aW (by decide) (fun _:Unit=>{ s:=cG [(7,.nils),(17,.d (.int .i64 0)),(18,.d (.int .i64 0))],b:=cE [] }) (fun _=>True) (fun _=>0) () trivial (aE _ [] .nil (by simp)) ?_
   intro _ _
   simp
   all_goals exact gz
 | some l =>
   rw [hc] at ht
   obtain ⟨h1,h2⟩:=dI hc
   have hnl:=cV l
   have hga:∀ i (h:i<l.length),∀ h',(aG (aO l))[i]'h'=[.int .i64 (l[i]:Int)]:=fun i h h'=>by simp [aG,aO]
   unfold mZ at ht
   simp only at ht ⊢
   generalize hZ:aG (aO l)=Z at *
   simp [aR,Vw.a,Vw.c] at ht ⊢
   (repeat' first|contradiction|exact .ok|apply And.intro|intro _|(apply gc<;>simp+contextual))
   refine aA ht (by simp) ?_
   simp [hnl]
   (repeat' first|contradiction|exact .ok|apply And.intro|intro _|(apply gc<;>simp+contextual))
   refine aL aW (by decide) (fun i:Nat=>{ s:=cG [(2,.ptr 2 0 0),(7,.ref 907 0 (bU S (l.take i)).length 3),(16,.d (.sl Z)),(17,.d (.int .i64 l.length)),(18,.d (.int .i64 i))],b:=cE [(2,2,.var [.d (.sl (S.map Tb.c))]),(907,907,.arr 87 3 ((bU S (l.take i)).map Col.c) false)] })
    (fun i=>i≤l.length∧(bU S (l.take i)).length≤1000*i) (fun i=>l.length - i) 0 ⟨by simp,by simp [bU]⟩
    (dW 7 907 87 3 (by simp) (by simp) (by decide) (by decide) _ [(2,2,_),(907,907,_)] ⟨by simp,by simp,by simp [aB,Blk.live,bU],by simp⟩ (by simp [aB,hnl,bU])) ?_
   rintro i ⟨hi,hCl⟩
   by_cases hlt:i<l.length
   ·have hw:=aH (n:=(i:Int)+1) (by omega) (by omega)
    have hk:=h1 l[i] (List.getElem_mem hlt)
    have htab:aV S l[i]=S[l[i]]:=by unfold aV; rw [List.getElem?_eq_getElem hk]; rfl
    have hcl:=(hS _ (List.getElem_mem hk)).cols
    have hsu:bU S (l.take (i+1))=bU S (l.take i)++S[l[i]].cols:=by
     unfold bU
     rw [bV hlt,List.flatMap_append]
     simp [htab]
    have hgl:=hga i hlt
    have hiZ:i<Z.length:=by omega
    generalize hkk:l[i]=k at *
    obtain ⟨x,hx⟩:∃ x,x=S[k]:=⟨_,rfl⟩
    have hgx:∀ h,S[k]'h=x:=fun _=>hx.symm
    rw [← hx] at hcl hsu
    generalize bU S (l.take i)=C at *
    have htk:(C.map Col.c).take C.length=C.map Col.c:=List.take_of_length_le (by simp)
    have hz:=eI C.length (by omega) 32 (by decide)
    have hz2:=eI (C.length+x.cols.length) (by omega) 32 (by decide)
    simp [show ∀ u:Col,u.c.length=3 from fun _=>rfl,hlt,hiZ,hgl,hk,hgx,Tb.c,htk,hz,hz2]
    (repeat' first|contradiction|exact .ok|apply And.intro|intro _|(apply gc<;>simp+contextual))
    refine ⟨i+1,⟨by omega,by rw [hsu,List.length_append]; omega⟩,?_,by simp; omega⟩
    simp only [hsu]
    exact aE _ [(2,2,_),(907,29,_)] ⟨by simp,by simp,by simp [aB,Blk.live],by simp⟩ (by simp [aB,hw])
   obtain rfl:i=l.length:=by omega
   rw [List.take_length] at *
   have htk:((bU S l).map Col.c).take (bU S l).length=(bU S l).map Col.c:=List.take_of_length_le (by simp)
   simp [htk]
   all_goals exact gz
end Go.Proofs.Tryz
