import Derived.Test.YthpmjipkofbeiaaGreatDoorRag
import Derived.Test.YthpmjipkofbeiaaGreatDoorTPtm
set_option linter.all false
namespace Go.Proofs.Tryz
open Go.Ab
set_option maxRecDepth 100000
set_option maxHeartbeats 8000000
def priR (q:RS→Tm×RS) (s:RS):Tm×RS :=
    if 0≤s.2 then (zeT,s)
    else if (hdT s.1).kd=2 then (.mk 2 0 (hdT s.1).n [] [] [],rNext s)
    else if (hdT s.1).kd=3 then (.mk 4 0 0 (hdT s.1).tx [] [],rNext s)
    else if rNamed s=true then
     let a:=rName s
     if rIs wDot a.2=true then (.mk 40 0 0 (rName (rNext a.2)).1 a.1 [],(rName (rNext a.2)).2) else (.mk 40 0 0 a.1 [] [],a.2)
    else if rIs wOpen s=true then ((q (rNext s)).1,rWant wShut (q (rNext s)).2)
    else if rIs wTrue s=true then (.mk 3 0 1 [] [] [],rNext s)
    else if rIs wFalse s=true then (mkT 3 [],rNext s)
    else if rIs wNull s=true then nullR (rNext s)
    else if rIs wLength s=true then
     let a:=q (rWant wOpen (rNext s))
     (mkT 13 [a.1],rWant wShut a.2)
    else if rIs wCoalesce s=true then
     let a:=q (rWant wOpen (rNext s))
     let b:=q (rWant wComma a.2)
     (mkT 27 [a.1,b.1],rWant wShut b.2)
    else if rIs wCase s=true then caseR q (rNext s)
    else aggR q s
section
variable {s:List UInt8} (hs:s.length≤5000) {L:Nat} {q:RS→Tm×RS} {st:RS}
include hs
theorem r_primary (hq:RuR s L 27 q) (ha:At (toks s) st.1) (hl:st.1.length≤L+1) {res:Tm×RS} (hres:priR q st=res) :
  Cf Es 207 [.ptr 1000000 0 0] [rrB s st] res.1.a [rrB s res.2]:=by
 unfold priR at hres
 refine cf_intro mixs (fn:=Tryz.f207) (by kernel_rfl) rfl (by kernel_rfl) (by decide) (by simp) ?_
 by_cases hb:0≤st.2
 ·rw [if_pos hb] at hres
  subst hres
  simp [hb]<;>(repeat' first|contradiction|exact .ok|apply And.intro|intro _|(refine gc (fun h=>?_) (fun h=>?_)<;>(have h':=h;(try simp at h');first|done|simp[h,h',hb]|simp[hb])))
  all_goals simp [zeT,mkT,Tm.c,tmsC]
 rw [if_neg hb] at hres
 have hb':st.2<0:=by omega
 by_cases k2:(hdT st.1).kd=2
 ·rw [if_pos k2] at hres
  subst hres
  have hn:=r_next hs ha (ends_kd (by omega) (by omega))
  simp [hb,hb',k2]<;>(repeat' first|contradiction|exact .ok|apply And.intro|intro _|(refine gc (fun h=>?_) (fun h=>?_)<;>(have h':=h;(try simp at h');first|done|simp[h,h',hb,hb',k2]|simp[hb,hb',k2])))
  refine acallT_hand [1000000] (hn) (by simp) (by simp) (by simp) (by simp [k2]) (by simp) ?_
  simp [Tm.c,tmsC]<;>(repeat' first|contradiction|exact .ok|apply And.intro|intro _|(refine gc (fun h=>?_) (fun h=>?_)<;>(have h':=h;(try simp at h');first|done|simp[h,h',Tm.c,tmsC]|simp[Tm.c,tmsC])))
 rw [if_neg k2] at hres
 by_cases k3:(hdT st.1).kd=3
 ·rw [if_pos k3] at hres
  subst hres
  have hn:=r_next hs ha (ends_kd (by omega) (by omega))
  simp [hb,hb',k3]<;>(repeat' first|contradiction|exact .ok|apply And.intro|intro _|(refine gc (fun h=>?_) (fun h=>?_)<;>(have h':=h;(try simp at h');first|done|simp[h,h',hb,hb',k3]|simp[hb,hb',k3])))
  refine acallT_hand [1000000] (hn) (by simp) (by simp) (by simp) (by simp [k3]) (by simp) ?_
  simp [Tm.c,tmsC]<;>(repeat' first|contradiction|exact .ok|apply And.intro|intro _|(refine gc (fun h=>?_) (fun h=>?_)<;>(have h':=h;(try simp at h');first|done|simp[h,h',Tm.c,tmsC]|simp[Tm.c,tmsC])))
 rw [if_neg k3] at hres
 have hnd:=r_named hs ha
 cases hna:rNamed st with
 | true =>
   rw [if_pos hna] at hres
   rw [hna] at hnd
   have hnm:=r_nameR hs ha
   have kn:=kp_name st
   have h1:=ha.kp kn
   generalize rName st=a at *
   obtain ⟨a,st1⟩:=a
   simp only at hres hnm kn h1
   cases hd:rIs wDot st1 with
   | true =>
     rw [if_pos hd] at hres
     have h2:=h1.kp (kp_is hd)
     have hto:=take_yesR hs h1 hd
     generalize rNext st1=st2 at *
     have hnm2:=r_nameR hs h2
     generalize rName st2=b at *
     obtain ⟨b,st3⟩:=b
     simp only at hres hnm2
     subst hres
     simp [hb,hb',k2,k3]<;>(repeat' first|contradiction|exact .ok|apply And.intro|intro _|(refine gc (fun h=>?_) (fun h=>?_)<;>(have h':=h;(try simp at h');first|done|simp[h,h',hb,hb',k2,k3]|simp[hb,hb',k2,k3])))
     refine acallT_hand [1000000] (hnd) (by simp) (by simp) (by simp) (by simp) (by simp) ?_
     simp<;>(repeat' first|contradiction|exact .ok|apply And.intro|intro _|(refine gc (fun h=>?_) (fun h=>?_)<;>(have h':=h;(try simp at h');first|done|simp[h,h']|simp)))
     refine acallT_hand [1000000] (hnm) (by simp) (by simp) (by simp) (by simp) (by simp) ?_
     simp<;>(repeat' first|contradiction|exact .ok|apply And.intro|intro _|(refine gc (fun h=>?_) (fun h=>?_)<;>(have h':=h;(try simp at h');first|done|simp[h,h']|simp)))
     refine acallT_hand [1000000] (hto) (by simp) (by simp) (by simp) (by simp) (by simp) ?_
     simp<;>(repeat' first|contradiction|exact .ok|apply And.intro|intro _|(refine gc (fun h=>?_) (fun h=>?_)<;>(have h':=h;(try simp at h');first|done|simp[h,h']|simp)))
     refine acallT_hand [1000000] (hnm2) (by simp) (by simp) (by simp) (by simp) (by simp) ?_
     simp [Tm.c,tmsC]<;>(repeat' first|contradiction|exact .ok|apply And.intro|intro _|(refine gc (fun h=>?_) (fun h=>?_)<;>(have h':=h;(try simp at h');first|done|simp[h,h',Tm.c,tmsC]|simp[Tm.c,tmsC])))
   | false =>
     rw [if_neg (by rw [hd]; exact Bool.false_ne_true)] at hres
     have hto:=take_noR hs h1 hd
     subst hres
     simp [hb,hb',k2,k3]<;>(repeat' first|contradiction|exact .ok|apply And.intro|intro _|(refine gc (fun h=>?_) (fun h=>?_)<;>(have h':=h;(try simp at h');first|done|simp[h,h',hb,hb',k2,k3]|simp[hb,hb',k2,k3])))
     refine acallT_hand [1000000] (hnd) (by simp) (by simp) (by simp) (by simp) (by simp) ?_
     simp<;>(repeat' first|contradiction|exact .ok|apply And.intro|intro _|(refine gc (fun h=>?_) (fun h=>?_)<;>(have h':=h;(try simp at h');first|done|simp[h,h']|simp)))
     refine acallT_hand [1000000] (hnm) (by simp) (by simp) (by simp) (by simp) (by simp) ?_
     simp<;>(repeat' first|contradiction|exact .ok|apply And.intro|intro _|(refine gc (fun h=>?_) (fun h=>?_)<;>(have h':=h;(try simp at h');first|done|simp[h,h']|simp)))
     refine acallT_hand [1000000] (hto) (by simp) (by simp) (by simp) (by simp) (by simp) ?_
     simp [Tm.c,tmsC]<;>(repeat' first|contradiction|exact .ok|apply And.intro|intro _|(refine gc (fun h=>?_) (fun h=>?_)<;>(have h':=h;(try simp at h');first|done|simp[h,h',Tm.c,tmsC]|simp[Tm.c,tmsC])))
 | false =>
 rw [if_neg (by rw [hna]; exact Bool.false_ne_true)] at hres
 rw [hna] at hnd
 simp [hb,hb',k2,k3]<;>(repeat' first|contradiction|exact .ok|apply And.intro|intro _|(refine gc (fun h=>?_) (fun h=>?_)<;>(have h':=h;(try simp at h');first|done|simp[h,h',hb,hb',k2,k3]|simp[hb,hb',k2,k3])))
 refine acallT_hand [1000000] (hnd) (by simp) (by simp) (by simp) (by simp) (by simp) ?_
 simp<;>(repeat' first|contradiction|exact .ok|apply And.intro|intro _|(refine gc (fun h=>?_) (fun h=>?_)<;>(have h':=h;(try simp at h');first|done|simp[h,h']|simp)))
 cases hw1:rIs wOpen st with
 | true =>
   rw [if_pos hw1] at hres
   have hlen:=is_len hw1
   have h1:=ha.kp (kp_is hw1)
   have hto:=take_yesR hs ha hw1
   generalize rNext st=st1 at *
   refine acallT_hand [1000000] (hto) (by simp) (by simp) (by simp) (by simp) (by simp) ?_
   simp<;>(repeat' first|contradiction|exact .ok|apply And.intro|intro _|(refine gc (fun h=>?_) (fun h=>?_)<;>(have h':=h;(try simp at h');first|done|simp[h,h']|simp)))
   have h2:=hq.run st1 h1 (by omega)
   have k2:=hq.kp st1
   have h2':=h1.kp k2
   have l2:=k2.le
   generalize q st1=x2 at *
   obtain ⟨x2,st2⟩:=x2
   simp only at hres h2 k2 h2' l2
   have hw:=r_want hs h2' wShut
   subst hres
   refine acallT_hand [1000000] (h2) (by simp) (by simp) (by simp) (by simp) (by simp) ?_
   simp<;>(repeat' first|contradiction|exact .ok|apply And.intro|intro _|(refine gc (fun h=>?_) (fun h=>?_)<;>(have h':=h;(try simp at h');first|done|simp[h,h']|simp)))
   refine acallT_hand [1000000] (hw) (by simp) (by simp) (by simp) (by simp) (by simp) ?_
   simp<;>(repeat' first|contradiction|exact .ok|apply And.intro|intro _|(refine gc (fun h=>?_) (fun h=>?_)<;>(have h':=h;(try simp at h');first|done|simp[h,h']|simp)))
 | false =>
 rw [if_neg (by rw [hw1]; exact Bool.false_ne_true)] at hres
 refine acallT_hand [1000000] (take_noR hs ha hw1) (by simp) (by simp) (by simp) (by simp) (by simp) ?_
 simp<;>(repeat' first|contradiction|exact .ok|apply And.intro|intro _|(refine gc (fun h=>?_) (fun h=>?_)<;>(have h':=h;(try simp at h');first|done|simp[h,h']|simp)))
 cases hw2:rIs wTrue st with
 | true =>
   rw [if_pos hw2] at hres
   have hlen:=is_len hw2
   have h1:=ha.kp (kp_is hw2)
   have hto:=take_yesR hs ha hw2
   generalize rNext st=st1 at *
   subst hres
   refine acallT_hand [1000000] (hto) (by simp) (by simp) (by simp) (by simp) (by simp) ?_
   simp [Tm.c,tmsC]<;>(repeat' first|contradiction|exact .ok|apply And.intro|intro _|(refine gc (fun h=>?_) (fun h=>?_)<;>(have h':=h;(try simp at h');first|done|simp[h,h',Tm.c,tmsC]|simp[Tm.c,tmsC])))
 | false =>
 rw [if_neg (by rw [hw2]; exact Bool.false_ne_true)] at hres
 refine acallT_hand [1000000] (take_noR hs ha hw2) (by simp) (by simp) (by simp) (by simp) (by simp) ?_
 simp<;>(repeat' first|contradiction|exact .ok|apply And.intro|intro _|(refine gc (fun h=>?_) (fun h=>?_)<;>(have h':=h;(try simp at h');first|done|simp[h,h']|simp)))
 cases hw3:rIs wFalse st with
 | true =>
   rw [if_pos hw3] at hres
   have hlen:=is_len hw3
   have h1:=ha.kp (kp_is hw3)
   have hto:=take_yesR hs ha hw3
   generalize rNext st=st1 at *
   subst hres
   refine acallT_hand [1000000] (hto) (by simp) (by simp) (by simp) (by simp) (by simp) ?_
   simp [mkT,Tm.c,tmsC]<;>(repeat' first|contradiction|exact .ok|apply And.intro|intro _|(refine gc (fun h=>?_) (fun h=>?_)<;>(have h':=h;(try simp at h');first|done|simp[h,h',mkT,Tm.c,tmsC]|simp[mkT,Tm.c,tmsC])))
 | false =>
 rw [if_neg (by rw [hw3]; exact Bool.false_ne_true)] at hres
 refine acallT_hand [1000000] (take_noR hs ha hw3) (by simp) (by simp) (by simp) (by simp) (by simp) ?_
 simp<;>(repeat' first|contradiction|exact .ok|apply And.intro|intro _|(refine gc (fun h=>?_) (fun h=>?_)<;>(have h':=h;(try simp at h');first|done|simp[h,h']|simp)))
 cases hw4:rIs wNull st with
 | true =>
   rw [if_pos hw4] at hres
   have hlen:=is_len hw4
   have h1:=ha.kp (kp_is hw4)
   have hto:=take_yesR hs ha hw4
   generalize rNext st=st1 at *
   refine acallT_hand [1000000] (hto) (by simp) (by simp) (by simp) (by simp) (by simp) ?_
   simp<;>(repeat' first|contradiction|exact .ok|apply And.intro|intro _|(refine gc (fun h=>?_) (fun h=>?_)<;>(have h':=h;(try simp at h');first|done|simp[h,h']|simp)))
   have hnu:=r_null hs h1 hres
   refine acallT_hand [1000000] (hnu) (by simp) (by simp) (by simp) (by simp) (by simp) ?_
   simp<;>(repeat' first|contradiction|exact .ok|apply And.intro|intro _|(refine gc (fun h=>?_) (fun h=>?_)<;>(have h':=h;(try simp at h');first|done|simp[h,h']|simp)))
 | false =>
 rw [if_neg (by rw [hw4]; exact Bool.false_ne_true)] at hres
 refine acallT_hand [1000000] (take_noR hs ha hw4) (by simp) (by simp) (by simp) (by simp) (by simp) ?_
 simp<;>(repeat' first|contradiction|exact .ok|apply And.intro|intro _|(refine gc (fun h=>?_) (fun h=>?_)<;>(have h':=h;(try simp at h');first|done|simp[h,h']|simp)))
 cases hw5:rIs wLength st with
 | true =>
   rw [if_pos hw5] at hres
   have hlen:=is_len hw5
   have h1:=ha.kp (kp_is hw5)
   have hto:=take_yesR hs ha hw5
   generalize rNext st=st1 at *
   refine acallT_hand [1000000] (hto) (by simp) (by simp) (by simp) (by simp) (by simp) ?_
   simp<;>(repeat' first|contradiction|exact .ok|apply And.intro|intro _|(refine gc (fun h=>?_) (fun h=>?_)<;>(have h':=h;(try simp at h');first|done|simp[h,h']|simp)))
   have w2:=r_want hs h1 wOpen
   have kw2:=kp_want wOpen st1
   have h2:=h1.kp kw2
   have lw2:=kw2.le
   generalize rWant wOpen st1=st2 at *
   have h3:=hq.run st2 h2 (by omega)
   have k3:=hq.kp st2
   have h3':=h2.kp k3
   have l3:=k3.le
   generalize q st2=x3 at *
   obtain ⟨x3,st3⟩:=x3
   simp only at hres h3 k3 h3' l3
   have hw:=r_want hs h3' wShut
   subst hres
   refine acallT_hand [1000000] (w2) (by simp) (by simp) (by simp) (by simp) (by simp) ?_
   simp<;>(repeat' first|contradiction|exact .ok|apply And.intro|intro _|(refine gc (fun h=>?_) (fun h=>?_)<;>(have h':=h;(try simp at h');first|done|simp[h,h']|simp)))
   refine acallT_hand [1000000] (h3) (by simp) (by simp) (by simp) (by simp) (by simp) ?_
   simp<;>(repeat' first|contradiction|exact .ok|apply And.intro|intro _|(refine gc (fun h=>?_) (fun h=>?_)<;>(have h':=h;(try simp at h');first|done|simp[h,h']|simp)))
   refine acallT_plain (ups (r_one 13 x3)) (by simp) ?_
   simp<;>(repeat' first|contradiction|exact .ok|apply And.intro|intro _|(refine gc (fun h=>?_) (fun h=>?_)<;>(have h':=h;(try simp at h');first|done|simp[h,h']|simp)))
   refine acallT_hand [1000000] (hw) (by simp) (by simp) (by simp) (by simp) (by simp) ?_
   simp<;>(repeat' first|contradiction|exact .ok|apply And.intro|intro _|(refine gc (fun h=>?_) (fun h=>?_)<;>(have h':=h;(try simp at h');first|done|simp[h,h']|simp)))
 | false =>
 rw [if_neg (by rw [hw5]; exact Bool.false_ne_true)] at hres
 refine acallT_hand [1000000] (take_noR hs ha hw5) (by simp) (by simp) (by simp) (by simp) (by simp) ?_
 simp<;>(repeat' first|contradiction|exact .ok|apply And.intro|intro _|(refine gc (fun h=>?_) (fun h=>?_)<;>(have h':=h;(try simp at h');first|done|simp[h,h']|simp)))
 cases hw6:rIs wCoalesce st with
 | true =>
   rw [if_pos hw6] at hres
   have hlen:=is_len hw6
   have h1:=ha.kp (kp_is hw6)
   have hto:=take_yesR hs ha hw6
   generalize rNext st=st1 at *
   refine acallT_hand [1000000] (hto) (by simp) (by simp) (by simp) (by simp) (by simp) ?_
   simp<;>(repeat' first|contradiction|exact .ok|apply And.intro|intro _|(refine gc (fun h=>?_) (fun h=>?_)<;>(have h':=h;(try simp at h');first|done|simp[h,h']|simp)))
   have w2:=r_want hs h1 wOpen
   have kw2:=kp_want wOpen st1
   have h2:=h1.kp kw2
   have lw2:=kw2.le
   generalize rWant wOpen st1=st2 at *
   have h3:=hq.run st2 h2 (by omega)
   have k3:=hq.kp st2
   have h3':=h2.kp k3
   have l3:=k3.le
   generalize q st2=x3 at *
   obtain ⟨x3,st3⟩:=x3
   simp only at hres h3 k3 h3' l3
   have w4:=r_want hs h3' wComma
   have kw4:=kp_want wComma st3
   have h4:=h3'.kp kw4
   have lw4:=kw4.le
   generalize rWant wComma st3=st4 at *
   have h5:=hq.run st4 h4 (by omega)
   have k5:=hq.kp st4
   have h5':=h4.kp k5
   have l5:=k5.le
   generalize q st4=x5 at *
   obtain ⟨x5,st5⟩:=x5
   simp only at hres h5 k5 h5' l5
   have hw:=r_want hs h5' wShut
   subst hres
   refine acallT_hand [1000000] (w2) (by simp) (by simp) (by simp) (by simp) (by simp) ?_
   simp<;>(repeat' first|contradiction|exact .ok|apply And.intro|intro _|(refine gc (fun h=>?_) (fun h=>?_)<;>(have h':=h;(try simp at h');first|done|simp[h,h']|simp)))
   refine acallT_hand [1000000] (h3) (by simp) (by simp) (by simp) (by simp) (by simp) ?_
   simp<;>(repeat' first|contradiction|exact .ok|apply And.intro|intro _|(refine gc (fun h=>?_) (fun h=>?_)<;>(have h':=h;(try simp at h');first|done|simp[h,h']|simp)))
   refine acallT_hand [1000000] (w4) (by simp) (by simp) (by simp) (by simp) (by simp) ?_
   simp<;>(repeat' first|contradiction|exact .ok|apply And.intro|intro _|(refine gc (fun h=>?_) (fun h=>?_)<;>(have h':=h;(try simp at h');first|done|simp[h,h']|simp)))
   refine acallT_hand [1000000] (h5) (by simp) (by simp) (by simp) (by simp) (by simp) ?_
   simp<;>(repeat' first|contradiction|exact .ok|apply And.intro|intro _|(refine gc (fun h=>?_) (fun h=>?_)<;>(have h':=h;(try simp at h');first|done|simp[h,h']|simp)))
   refine acallT_plain (ups (r_two 27 x3 x5)) (by simp) ?_
   simp<;>(repeat' first|contradiction|exact .ok|apply And.intro|intro _|(refine gc (fun h=>?_) (fun h=>?_)<;>(have h':=h;(try simp at h');first|done|simp[h,h']|simp)))
   refine acallT_hand [1000000] (hw) (by simp) (by simp) (by simp) (by simp) (by simp) ?_
   simp<;>(repeat' first|contradiction|exact .ok|apply And.intro|intro _|(refine gc (fun h=>?_) (fun h=>?_)<;>(have h':=h;(try simp at h');first|done|simp[h,h']|simp)))
 | false =>
 rw [if_neg (by rw [hw6]; exact Bool.false_ne_true)] at hres
 refine acallT_hand [1000000] (take_noR hs ha hw6) (by simp) (by simp) (by simp) (by simp) (by simp) ?_
 simp<;>(repeat' first|contradiction|exact .ok|apply And.intro|intro _|(refine gc (fun h=>?_) (fun h=>?_)<;>(have h':=h;(try simp at h');first|done|simp[h,h']|simp)))
 cases hw7:rIs wCase st with
 | true =>
   rw [if_pos hw7] at hres
   have hlen:=is_len hw7
   have h1:=ha.kp (kp_is hw7)
   have hto:=take_yesR hs ha hw7
   generalize rNext st=st1 at *
   refine acallT_hand [1000000] (hto) (by simp) (by simp) (by simp) (by simp) (by simp) ?_
   simp<;>(repeat' first|contradiction|exact .ok|apply And.intro|intro _|(refine gc (fun h=>?_) (fun h=>?_)<;>(have h':=h;(try simp at h');first|done|simp[h,h']|simp)))
   have hca:=r_cases hs hq h1 (by omega) hres
   refine acallT_hand [1000000] (hca) (by simp) (by simp) (by simp) (by simp) (by simp) ?_
   simp<;>(repeat' first|contradiction|exact .ok|apply And.intro|intro _|(refine gc (fun h=>?_) (fun h=>?_)<;>(have h':=h;(try simp at h');first|done|simp[h,h']|simp)))
 | false =>
 rw [if_neg (by rw [hw7]; exact Bool.false_ne_true)] at hres
 refine acallT_hand [1000000] (take_noR hs ha hw7) (by simp) (by simp) (by simp) (by simp) (by simp) ?_
 simp<;>(repeat' first|contradiction|exact .ok|apply And.intro|intro _|(refine gc (fun h=>?_) (fun h=>?_)<;>(have h':=h;(try simp at h');first|done|simp[h,h']|simp)))
 have hag:=r_aggregate hs hq ha hl hres
 refine acallT_hand [1000000] (hag) (by simp) (by simp) (by simp) (by simp) (by simp) ?_
 simp<;>(repeat' first|contradiction|exact .ok|apply And.intro|intro _|(refine gc (fun h=>?_) (fun h=>?_)<;>(have h':=h;(try simp at h');first|done|simp[h,h']|simp)))
end
end Go.Proofs.Tryz
