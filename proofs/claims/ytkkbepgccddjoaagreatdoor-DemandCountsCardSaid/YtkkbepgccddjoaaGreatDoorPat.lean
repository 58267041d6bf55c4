import Derived.Test.YtkkbepgccddjoaaGreatDoorSuu
import Derived.Test.YtkkbepgccddjoaaGreatDoorCSmc
import Derived.Test.YtkkbepgccddjoaaGreatDoorCKys
import Derived.Test.YtkkbepgccddjoaaGreatDoorCEnvR
set_option linter.all false
namespace Go.Proofs.Tryz
open Go.Ab
set_option maxRecDepth 100000
set_option maxHeartbeats 4000000
def OG:Ex→Int | .mk _ _ _ _ g _=>g
def SU:Ex→Int | .mk o _ _ _ _ _=>o
def vlE (e:Ex):V:=if SU e=2∨SU e=3∨SU e=4 then aG e [] else nulV
def vlR (e:Ex):V:=if e.kids=[]∧(SU e=2∨SU e=3∨SU e=4) then aG e [] else nulV
def eH:Ex→At
 | .mk o _ _ _ g ks=>if o=5 then ⟨g,o,nulV⟩ else match ks with
   | [k]=>⟨OG k,o,nulV⟩
   | [k,u]=>⟨OG k,o,vlE u⟩
   | _=>⟨0,o,nulV⟩
def mM (x:Tb) (e:Ex):Bool:=oA x (eH e)&&(eH e).ex.eq e
theorem aEl (a:At):a.ex.fits:=by
 unfold At.ex
 repeat' split
 all_goals simp [fH,bT,Ex.fits,jJ]
 all_goals (repeat' split)
 all_goals (repeat' split)
 all_goals simp [Ex.fits,jJ]
theorem aBQ (x:Tb) (hx:x.ok) (ht:∀ c∈x.cols,c.t=1∨c.t=2∨c.t=3) (e:Ex) (q:Nat) (hq:e.few q=true) :
  Cf Es 183 [x.a,e.a] [] (.tup [(eH e).a,.d (.bool (mM x e))]) []:=by
 have hs:=eG (ZT x hx ht (eH e))
 have hex:=eG (aAK (eH e))
 have hsm:=eG (DS (SizeOf.sizeOf (eH e).ex+1) (eH e).ex e (by omega) (aEl _))
 unfold mM
 have hcl:=Ex.clen (eH e).ex
 have hct:=Ex.ctake (eH e).ex
 generalize oA x (eH e)=S at *
 generalize hE:(eH e).ex=E at *
 generalize E.eq e=Q at *
 obtain ⟨o,c,n,t,g,ks⟩:=e
 refine cI bM (fn:=Tryz.f183) rfl ?_
 by_cases h5:o=5
 ·subst h5
  have hc:eH (.mk 5 c n t g ks)=⟨g,5,nulV⟩:=by simp [eH]
  rw [hc] at hs hex ⊢
  simp [Ex.a,Ex.c,aE,At.a,At.c,nulV,Tb.a,Tb.c] at hs hex hsm ⊢
  (repeat' first|contradiction|exact .ok|apply And.intro|intro _|(apply gc<;>simp+contextual))
  refine aP hs ?_
  cases S with
  | false =>
    simp
    all_goals exact gz
  | true =>
    simp
    (repeat' first|contradiction|exact .ok|apply And.intro|intro _|(apply gc<;>simp+contextual))
    refine aP hex ?_
    simp
    refine aP hsm ?_
    simp
    all_goals exact gz
 ·match ks,hq with
  | [],hq =>
    have hc:eH (.mk o c n t g [])=⟨0,o,nulV⟩:=by simp [eH,h5]
    rw [hc] at hs hex ⊢
    simp [h5,Ex.a,Ex.c,aE,At.a,At.c,nulV,Tb.a,Tb.c] at hs hex hsm ⊢
    (repeat' first|contradiction|exact .ok|apply And.intro|intro _|(apply gc<;>simp+contextual[h5]))
    refine aP hs ?_
    cases S with
    | false =>
      simp
      all_goals exact gz
    | true =>
      simp
      (repeat' first|contradiction|exact .ok|apply And.intro|intro _|(apply gc<;>simp+contextual))
      refine aP hex ?_
      simp
      refine aP hsm ?_
      simp
      all_goals exact gz
  | [k],hq =>
    have hc:eH (.mk o c n t g [k])=⟨OG k,o,nulV⟩:=by simp [eH,h5]
    rw [hc] at hs hex ⊢
    obtain ⟨ko,kc,kn,kt,kg,kk⟩:=k
    simp [h5,Ex.a,Ex.c,aE,At.a,At.c,nulV,Tb.a,Tb.c,OG] at hs hex hsm ⊢
    (repeat' first|contradiction|exact .ok|apply And.intro|intro _|(apply gc<;>simp+contextual[h5]))
    refine aP hs ?_
    cases S with
    | false =>
      simp
      all_goals exact gz
    | true =>
      simp
      (repeat' first|contradiction|exact .ok|apply And.intro|intro _|(apply gc<;>simp+contextual))
      refine aP hex ?_
      simp
      refine aP hsm ?_
      simp
      all_goals exact gz
  | [k,u],hq =>
    obtain ⟨_,_,hfew⟩:=jI hq
    have hfu:u.few (q+1)=true:=hfew u (by simp)
    have hev:=upo (JP [] (by simp) (SizeOf.sizeOf u+1) u (by omega) (q+1) hfu)
    have hc:eH (.mk o c n t g [k,u])=⟨OG k,o,vlE u⟩:=by simp [eH,h5]
    rw [hc] at hs hex ⊢
    unfold vlE at hs hex ⊢
    obtain ⟨ko,kc,kn,kt,kg,kk⟩:=k
    have hul:=Ex.clen u
    have hut:=Ex.ctake u
    generalize aG u []=W at *
    obtain ⟨uo,uc,un,ut,ug,uk⟩:=u
    by_cases u2:uo=2
    ·subst u2
     simp [h5,SU,Ex.a,Ex.c,aE,At.a,At.c,Tb.a,Tb.c,OG] at hs hex hsm hev ⊢
     (repeat' first|contradiction|exact .ok|apply And.intro|intro _|(apply gc<;>simp+contextual[h5]))
     refine aP hev ?_
     simp [V.a]
     (repeat' first|contradiction|exact .ok|apply And.intro|intro _|(apply gc<;>simp+contextual))
     refine aP hs ?_
     cases S with
     | false =>
       simp
       all_goals exact gz
     | true =>
       simp
       (repeat' first|contradiction|exact .ok|apply And.intro|intro _|(apply gc<;>simp+contextual))
       refine aP hex ?_
       simp
       refine aP hsm ?_
       simp
       all_goals exact gz
    ·by_cases u3:uo=3
     ·subst u3
      simp [h5,SU,Ex.a,Ex.c,aE,At.a,At.c,Tb.a,Tb.c,OG] at hs hex hsm hev ⊢
      (repeat' first|contradiction|exact .ok|apply And.intro|intro _|(apply gc<;>simp+contextual[h5]))
      refine aP hev ?_
      simp [V.a]
      (repeat' first|contradiction|exact .ok|apply And.intro|intro _|(apply gc<;>simp+contextual))
      refine aP hs ?_
      cases S with
      | false =>
        simp
        all_goals exact gz
      | true =>
        simp
        (repeat' first|contradiction|exact .ok|apply And.intro|intro _|(apply gc<;>simp+contextual))
        refine aP hex ?_
        simp
        refine aP hsm ?_
        simp
        all_goals exact gz
     ·by_cases u4:uo=4
      ·subst u4
       simp [h5,SU,Ex.a,Ex.c,aE,At.a,At.c,Tb.a,Tb.c,OG] at hs hex hsm hev ⊢
       (repeat' first|contradiction|exact .ok|apply And.intro|intro _|(apply gc<;>simp+contextual[h5]))
       refine aP hev ?_
       simp [V.a]
       (repeat' first|contradiction|exact .ok|apply And.intro|intro _|(apply gc<;>simp+contextual))
       refine aP hs ?_
       cases S with
       | false =>
         simp
         all_goals exact gz
       | true =>
         simp
         (repeat' first|contradiction|exact .ok|apply And.intro|intro _|(apply gc<;>simp+contextual))
         refine aP hex ?_
         simp
         refine aP hsm ?_
         simp
         all_goals exact gz
      ·have hno:¬ (uo=2∨uo=3∨uo=4):=by omega
       simp only [SU,hno,if_false] at hs hex ⊢
       simp [h5,u2,u3,u4,Ex.a,Ex.c,aE,At.a,At.c,nulV,Tb.a,Tb.c,OG] at hs hex hsm ⊢
       (repeat' first|contradiction|exact .ok|apply And.intro|intro _|(apply gc<;>simp+contextual[h5,u2,u3,u4]))
       refine aP hs ?_
       cases S with
       | false =>
         simp
         all_goals exact gz
       | true =>
         simp
         (repeat' first|contradiction|exact .ok|apply And.intro|intro _|(apply gc<;>simp+contextual))
         refine aP hex ?_
         simp
         refine aP hsm ?_
         simp
         all_goals exact gz
  | k::u::v::r,hq =>
    have hc:eH (.mk o c n t g (k::u::v::r))=⟨0,o,nulV⟩:=by simp [eH,h5]
    have l1:¬ ((r.length:Int)+1+1+1=1):=by omega
    have l2:¬ ((r.length:Int)+1+1+1=2):=by omega
    rw [hc] at hs hex ⊢
    simp [h5,l1,l2,Ex.a,Ex.c,aE,At.a,At.c,nulV,Tb.a,Tb.c] at hs hex hsm ⊢
    (repeat' first|contradiction|exact .ok|apply And.intro|intro _|(apply gc<;>simp+contextual[h5,l1,l2]))
    refine aP hs ?_
    cases S with
    | false =>
      simp
      all_goals exact gz
    | true =>
      simp
      (repeat' first|contradiction|exact .ok|apply And.intro|intro _|(apply gc<;>simp+contextual))
      refine aP hex ?_
      simp
      refine aP hsm ?_
      simp
      all_goals exact gz
theorem SV (e:Ex) (q:Nat) (hq:e.few q=true):Cf En 234 [e.a] [] (vlR e).a []:=by
 have he:=wG [] (by simp) (SizeOf.sizeOf e+1) e (by omega) q hq
 unfold vlR
 have hl:=Ex.clen e
 have ht:=Ex.ctake e
 generalize aG e []=W at *
 obtain ⟨o,c,n,t,g,ks⟩:=e
 refine cI aW (fn:=Tryz.f234) rfl ?_
 cases ks with
 | cons k r =>
   have hk:¬ ((r.length:Int)+1=0):=by omega
   simp [Ex.kids,hk,Ex.a,Ex.c,aE,nulV,V.a]
   (repeat' first|contradiction|exact .ok|apply And.intro|intro _|(apply gc<;>simp+contextual[hk]))
 | nil =>
   by_cases o2:o=2
   ·subst o2
    simp [Ex.kids,SU,Ex.a,Ex.c,dZ,V.a] at he ⊢
    (repeat' first|contradiction|exact .ok|apply And.intro|intro _|(apply gc<;>simp+contextual))
    refine aP he ?_
    simp
    all_goals exact gz
   ·by_cases o3:o=3
    ·subst o3
     simp [Ex.kids,SU,Ex.a,Ex.c,dZ,V.a] at he ⊢
     (repeat' first|contradiction|exact .ok|apply And.intro|intro _|(apply gc<;>simp+contextual))
     refine aP he ?_
     simp
     all_goals exact gz
    ·by_cases o4:o=4
     ·subst o4
      simp [Ex.kids,SU,Ex.a,Ex.c,dZ,V.a] at he ⊢
      (repeat' first|contradiction|exact .ok|apply And.intro|intro _|(apply gc<;>simp+contextual))
      refine aP he ?_
      simp
      all_goals exact gz
     ·simp [Ex.kids,SU,o2,o3,o4,Ex.a,Ex.c,dZ,V.a,nulV]
      (repeat' first|contradiction|exact .ok|apply And.intro|intro _|(apply gc<;>simp+contextual[o2,o3,o4]))
end Go.Proofs.Tryz
