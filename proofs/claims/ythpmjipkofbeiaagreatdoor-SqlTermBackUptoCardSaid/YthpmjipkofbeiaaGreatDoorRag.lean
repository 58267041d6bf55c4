import Derived.Test.YthpmjipkofbeiaaGreatDoorRcm
set_option linter.all false
namespace Go.Proofs.Tryz
open Go.Ab
set_option maxRecDepth 100000
set_option maxHeartbeats 4000000
@[simp] theorem toDs_three (bl:Nat→Blk) (a b c:List D):toDs bl (a.map AV.d++(b.map AV.d++c.map AV.d))=some (a++(b++c),[]):=by rw [← List.map_append,← List.map_append,toDs_d]
@[simp] theorem drop12 (t:Tm) (l:List D):List.drop 12 (t.c++l)=List.drop 6 l:=by
  rw [show (12:Nat)=6+6 from rfl,← List.drop_drop,drop6]
theorem rOne4 (a b c d:List UInt8) (st:RS):rOne [a,b,c,d] st=if rIs a st=true then some 0 else if rIs b st=true then some 1 else if rIs c st=true then some 2 else if rIs d st=true then some 3 else none:=by
 unfold rOne rIs oneOf
 by_cases h:st.2<0
 ·rw [if_pos h]
  simp only [h,decide_true,Bool.true_and,List.findIdx?_cons,List.findIdx?_nil]
  cases isW a st.1 <;> cases isW b st.1 <;> cases isW c st.1 <;> cases isW d st.1 <;> rfl
 ·rw [if_neg h]
  simp [h]
section
variable {s:List UInt8} (hs:s.length≤5000) {L:Nat} {q:RS→Tm×RS} {st:RS}
include hs
theorem r_null (ha:At (toks s) st.1) {res:Tm×RS} (hres:nullR st=res) :
  Cf Es 214 [.ptr 1000000 0 0] [rrB s st] res.1.a [rrB s res.2]:=by
 unfold nullR at hres
 obtain ⟨ws,hws⟩:∃ ws,ws=[wInt,wBool,wText]:=⟨_,rfl⟩
 rw [← hws] at hres
 have hwl:ws.length=3:=by rw [hws]; rfl
 have hwm:ws.map (fun w=>[D.str w])=[[.str [105,110,116]],[.str [98,111,111,108]],[.str [116,101,120,116]]]:=by rw [hws]; rfl
 refine cf_intro mixs (fn:=Tryz.f214) (by kernel_rfl) rfl (by kernel_rfl) (by decide) (by simp) ?_
 simp<;>(repeat' first|contradiction|exact .ok|apply And.intro|intro _|(refine gc (fun h=>?_) (fun h=>?_)<;>(have h':=h;(try simp at h');first|done|simp[h,h']|simp)))
 refine aloopT mixs (by decide) (fun i:Nat=>{ s:=mkS [(0,.ptr 1000000 0 0),(2,.ptr 2 0 0),(3,.d (.sl (ws.map fun w=>[.str w]))),(4,.d (.int .i64 i))],b:=mkB [(1000000,1000000,rrB s st),(2,2,.var zTm)] })
  (fun i=>i≤3∧∀ j (h:j<ws.length),j<i→rIs ws[j] st=false) (fun i=>3 - i) 0 ⟨by simp,fun j h hj=>by omega⟩
  (sub_mk _ [(1000000,1000000,_),(2,2,_)] ⟨by simp,by simp,by simp [renOf,Blk.live],base1⟩ (by simp [renOf,hwm])) ?_
 rintro i ⟨hi,h0⟩
 by_cases hlt:i<3
 ·have hlt':(i:Int)<3:=by omega
  have hiw:i<ws.length:=by omega
  have hwr:=wrap_in (n:=(i:Int)+1) (by omega) (by omega)
  have hwr2:=wrap_in (n:=1+(i:Int)) (by omega) (by omega)
  obtain ⟨e,hee⟩:∃ e,e=ws[i]:=⟨_,rfl⟩
  have hge:∀ h,ws[i]'h=e:=fun _=>hee.symm
  cases hw:rIs e st with
  | true =>
    have ho:=rOne_some hiw (fun j h hj=>h0 j h hj) (by rw [← hee]; exact hw)
    rw [ho] at hres
    simp only at hres
    subst hres
    have hto:=take_yesR hs ha hw
    simp [hlt,hlt',hwl,hge]<;>(repeat' first|contradiction|exact .ok|apply And.intro|intro _|(refine gc (fun h=>?_) (fun h=>?_)<;>(have h':=h;(try simp at h');first|done|simp[h,h',hlt,hlt',hwl,hge]|simp[hlt,hlt',hwl,hge])))
    refine acallT_hand [1000000] (hto) (by simp) (by simp) (by simp) (by simp) (by simp) ?_
    simp [hwr2]<;>(repeat' first|contradiction|exact .ok|apply And.intro|intro _|(refine gc (fun h=>?_) (fun h=>?_)<;>(have h':=h;(try simp at h');first|done|simp[h,h',hwr2]|simp[hwr2])))
    all_goals simp [Tm.c,tmsC]
  | false =>
    have hto:=take_noR hs ha hw
    simp [hlt,hlt',hwl,hge]<;>(repeat' first|contradiction|exact .ok|apply And.intro|intro _|(refine gc (fun h=>?_) (fun h=>?_)<;>(have h':=h;(try simp at h');first|done|simp[h,h',hlt,hlt',hwl,hge]|simp[hlt,hlt',hwl,hge])))
    refine acallT_hand [1000000] (hto) (by simp) (by simp) (by simp) (by simp) (by simp) ?_
    simp<;>(repeat' first|contradiction|exact .ok|apply And.intro|intro _|(refine gc (fun h=>?_) (fun h=>?_)<;>(have h':=h;(try simp at h');first|done|simp[h,h']|simp)))
    refine ⟨i+1,⟨by omega,fun j h hj=>?_⟩,?_,by simp only; omega⟩
    ·rcases Nat.lt_or_ge j i with c | c
     ·exact h0 j h c
     ·obtain rfl:j=i:=by omega
      rw [← hee]; exact hw
    exact sub_mk _ [(1000000,1000000,_),(2,2,_)] ⟨by simp,by simp,by simp [renOf,Blk.live],base1⟩ (by simp [renOf,hwr])
 ·obtain rfl:i=3:=by omega
  have ho:=rOne_none (ws:=ws) (st:=st) fun j h=>h0 j h (by omega)
  rw [ho] at hres
  simp only at hres
  subst hres
  have hfl:=r_fail hs ha
  simp [hwl]<;>(repeat' first|contradiction|exact .ok|apply And.intro|intro _|(refine gc (fun h=>?_) (fun h=>?_)<;>(have h':=h;(try simp at h');first|done|simp[h,h',hwl]|simp[hwl])))
  refine acallT_hand [1000000] (hfl) (by simp) (by simp) (by simp) (by simp) (by simp) ?_
  simp<;>(repeat' first|contradiction|exact .ok|apply And.intro|intro _|(refine gc (fun h=>?_) (fun h=>?_)<;>(have h':=h;(try simp at h');first|done|simp[h,h']|simp)))
  all_goals simp [zeT,mkT,Tm.c,tmsC]
theorem r_cases (hq:RuR s L 27 q) (ha:At (toks s) st.1) (hl:st.1.length≤L) {res:Tm×RS} (hres:caseR q st=res) :
  Cf Es 215 [.ptr 1000000 0 0] [rrB s st] res.1.a [rrB s res.2]:=by
 unfold caseR at hres
 refine cf_intro mixs (fn:=Tryz.f215) (by kernel_rfl) rfl (by kernel_rfl) (by decide) (by simp) ?_
 have w0:=r_want hs ha wWhen
 have k0:=kp_want wWhen st
 have a0:=ha.kp k0
 have l0:=k0.le
 generalize rWant wWhen st=s0 at *
 have q0:=hq.run s0 a0 (by omega)
 have j0:=hq.kp s0
 have b0:=a0.kp j0
 have m0:=j0.le
 generalize q s0=x0 at *
 obtain ⟨x0,y0⟩:=x0
 simp only at hres q0 j0 b0 m0
 have w1:=r_want hs b0 wThen
 have k1:=kp_want wThen y0
 have a1:=b0.kp k1
 have l1:=k1.le
 generalize rWant wThen y0=s1 at *
 have q1:=hq.run s1 a1 (by omega)
 have j1:=hq.kp s1
 have b1:=a1.kp j1
 have m1:=j1.le
 generalize q s1=x1 at *
 obtain ⟨x1,y1⟩:=x1
 simp only at hres q1 j1 b1 m1
 have w2:=r_want hs b1 wElse
 have k2:=kp_want wElse y1
 have a2:=b1.kp k2
 have l2:=k2.le
 generalize rWant wElse y1=s2 at *
 have q2:=hq.run s2 a2 (by omega)
 have j2:=hq.kp s2
 have b2:=a2.kp j2
 have m2:=j2.le
 generalize q s2=x2 at *
 obtain ⟨x2,y2⟩:=x2
 simp only at hres q2 j2 b2 m2
 have w3:=r_want hs b2 wEnd
 subst hres
 simp<;>(repeat' first|contradiction|exact .ok|apply And.intro|intro _|(refine gc (fun h=>?_) (fun h=>?_)<;>(have h':=h;(try simp at h');first|done|simp[h,h']|simp)))
 refine acallT_hand [1000000] (w0) (by simp) (by simp) (by simp) (by simp) (by simp) ?_
 simp<;>(repeat' first|contradiction|exact .ok|apply And.intro|intro _|(refine gc (fun h=>?_) (fun h=>?_)<;>(have h':=h;(try simp at h');first|done|simp[h,h']|simp)))
 refine acallT_hand [1000000] (q0) (by simp) (by simp) (by simp) (by simp) (by simp) ?_
 simp<;>(repeat' first|contradiction|exact .ok|apply And.intro|intro _|(refine gc (fun h=>?_) (fun h=>?_)<;>(have h':=h;(try simp at h');first|done|simp[h,h']|simp)))
 refine acallT_hand [1000000] (w1) (by simp) (by simp) (by simp) (by simp) (by simp) ?_
 simp<;>(repeat' first|contradiction|exact .ok|apply And.intro|intro _|(refine gc (fun h=>?_) (fun h=>?_)<;>(have h':=h;(try simp at h');first|done|simp[h,h']|simp)))
 refine acallT_hand [1000000] (q1) (by simp) (by simp) (by simp) (by simp) (by simp) ?_
 simp<;>(repeat' first|contradiction|exact .ok|apply And.intro|intro _|(refine gc (fun h=>?_) (fun h=>?_)<;>(have h':=h;(try simp at h');first|done|simp[h,h']|simp)))
 refine acallT_hand [1000000] (w2) (by simp) (by simp) (by simp) (by simp) (by simp) ?_
 simp<;>(repeat' first|contradiction|exact .ok|apply And.intro|intro _|(refine gc (fun h=>?_) (fun h=>?_)<;>(have h':=h;(try simp at h');first|done|simp[h,h']|simp)))
 refine acallT_hand [1000000] (q2) (by simp) (by simp) (by simp) (by simp) (by simp) ?_
 simp<;>(repeat' first|contradiction|exact .ok|apply And.intro|intro _|(refine gc (fun h=>?_) (fun h=>?_)<;>(have h':=h;(try simp at h');first|done|simp[h,h']|simp)))
 refine acallT_hand [1000000] (w3) (by simp) (by simp) (by simp) (by simp) (by simp) ?_
 simp<;>(repeat' first|contradiction|exact .ok|apply And.intro|intro _|(refine gc (fun h=>?_) (fun h=>?_)<;>(have h':=h;(try simp at h');first|done|simp[h,h']|simp)))
 all_goals simp [mkT,Tm.c,tmsC]
theorem r_aggregate (hq:RuR s L 27 q) (ha:At (toks s) st.1) (hl:st.1.length≤L+1) {res:Tm×RS} (hres:aggR q st=res) :
  Cf Es 216 [.ptr 1000000 0 0] [rrB s st] res.1.a [rrB s res.2]:=by
 unfold aggR at hres
 rw [show aggW=[wCount,wSum,wMin,wMax] from rfl,rOne4] at hres
 refine cf_intro mixs (fn:=Tryz.f216) (by kernel_rfl) rfl (by kernel_rfl) (by decide) (by simp) ?_
 cases hw0:rIs wCount st with
 | true =>
   rw [if_pos hw0] at hres
   simp only at hres
   have hlen:=is_len hw0
   have h3:=ha.kp (kp_is hw0)
   have hto:=take_yesR hs ha hw0
   generalize rNext st=st2 at *
   have wo:=r_want hs h3 wOpen
   have ko:=kp_want wOpen st2
   have h4:=h3.kp ko
   have l4:=ko.le
   generalize rWant wOpen st2=st3 at *
   cases hst:rIs wStar st3 with
   | true =>
     rw [if_pos ⟨trivial,hst⟩] at hres
     have h5:=h4.kp (kp_is hst)
     have w5:=r_want hs h5 wShut
     have ht5:=take_yesR hs h4 hst
     subst hres
     simp<;>(repeat' first|contradiction|exact .ok|apply And.intro|intro _|(refine gc (fun h=>?_) (fun h=>?_)<;>(have h':=h;(try simp at h');first|done|simp[h,h']|simp)))
     refine acallT_hand [1000000] (hto) (by simp) (by simp) (by simp) (by simp) (by simp) ?_
     simp<;>(repeat' first|contradiction|exact .ok|apply And.intro|intro _|(refine gc (fun h=>?_) (fun h=>?_)<;>(have h':=h;(try simp at h');first|done|simp[h,h']|simp)))
     refine acallT_hand [1000000] (wo) (by simp) (by simp) (by simp) (by simp) (by simp) ?_
     simp<;>(repeat' first|contradiction|exact .ok|apply And.intro|intro _|(refine gc (fun h=>?_) (fun h=>?_)<;>(have h':=h;(try simp at h');first|done|simp[h,h']|simp)))
     refine acallT_hand [1000000] (ht5) (by simp) (by simp) (by simp) (by simp) (by simp) ?_
     simp<;>(repeat' first|contradiction|exact .ok|apply And.intro|intro _|(refine gc (fun h=>?_) (fun h=>?_)<;>(have h':=h;(try simp at h');first|done|simp[h,h']|simp)))
     refine acallT_hand [1000000] (w5) (by simp) (by simp) (by simp) (by simp) (by simp) ?_
     simp<;>(repeat' first|contradiction|exact .ok|apply And.intro|intro _|(refine gc (fun h=>?_) (fun h=>?_)<;>(have h':=h;(try simp at h');first|done|simp[h,h']|simp)))
     all_goals simp [Tm.c,tmsC]
   | false =>
     cases hdi:rIs wDistinct st3 with
     | true =>
       rw [if_neg (fun h=>by rw [hst] at h; exact Bool.false_ne_true h.2),if_pos ⟨trivial,hdi⟩] at hres
       have hlen3:=is_len hdi
       have h5:=h4.kp (kp_is hdi)
       have ht5:=take_yesR hs h4 hdi
       generalize rNext st3=st5 at *
       have h6:=hq.run st5 h5 (by omega)
       have k6:=hq.kp st5
       have h7:=h5.kp k6
       generalize q st5=x at *
       obtain ⟨x,st6⟩:=x
       simp only at hres h6 k6 h7
       have w7:=r_want hs h7 wShut
       subst hres
       simp<;>(repeat' first|contradiction|exact .ok|apply And.intro|intro _|(refine gc (fun h=>?_) (fun h=>?_)<;>(have h':=h;(try simp at h');first|done|simp[h,h']|simp)))
       refine acallT_hand [1000000] (hto) (by simp) (by simp) (by simp) (by simp) (by simp) ?_
       simp<;>(repeat' first|contradiction|exact .ok|apply And.intro|intro _|(refine gc (fun h=>?_) (fun h=>?_)<;>(have h':=h;(try simp at h');first|done|simp[h,h']|simp)))
       refine acallT_hand [1000000] (wo) (by simp) (by simp) (by simp) (by simp) (by simp) ?_
       simp<;>(repeat' first|contradiction|exact .ok|apply And.intro|intro _|(refine gc (fun h=>?_) (fun h=>?_)<;>(have h':=h;(try simp at h');first|done|simp[h,h']|simp)))
       refine acallT_hand [1000000] (take_noR hs h4 hst) (by simp) (by simp) (by simp) (by simp) (by simp) ?_
       simp<;>(repeat' first|contradiction|exact .ok|apply And.intro|intro _|(refine gc (fun h=>?_) (fun h=>?_)<;>(have h':=h;(try simp at h');first|done|simp[h,h']|simp)))
       refine acallT_hand [1000000] (ht5) (by simp) (by simp) (by simp) (by simp) (by simp) ?_
       simp<;>(repeat' first|contradiction|exact .ok|apply And.intro|intro _|(refine gc (fun h=>?_) (fun h=>?_)<;>(have h':=h;(try simp at h');first|done|simp[h,h']|simp)))
       refine acallT_hand [1000000] (h6) (by simp) (by simp) (by simp) (by simp) (by simp) ?_
       simp<;>(repeat' first|contradiction|exact .ok|apply And.intro|intro _|(refine gc (fun h=>?_) (fun h=>?_)<;>(have h':=h;(try simp at h');first|done|simp[h,h']|simp)))
       refine acallT_hand [1000000] (w7) (by simp) (by simp) (by simp) (by simp) (by simp) ?_
       simp<;>(repeat' first|contradiction|exact .ok|apply And.intro|intro _|(refine gc (fun h=>?_) (fun h=>?_)<;>(have h':=h;(try simp at h');first|done|simp[h,h']|simp)))
       all_goals simp [Tm.c,tmsC]
     | false =>
       rw [if_neg (fun h=>by rw [hst] at h; exact Bool.false_ne_true h.2),if_neg (fun h=>by rw [hdi] at h; exact Bool.false_ne_true h.2)] at hres
       have h5:=hq.run st3 h4 (by omega)
       have k5:=hq.kp st3
       have h6:=h4.kp k5
       generalize q st3=x at *
       obtain ⟨x,st4⟩:=x
       simp only at hres h5 k5 h6
       have w5:=r_want hs h6 wShut
       subst hres
       simp<;>(repeat' first|contradiction|exact .ok|apply And.intro|intro _|(refine gc (fun h=>?_) (fun h=>?_)<;>(have h':=h;(try simp at h');first|done|simp[h,h']|simp)))
       refine acallT_hand [1000000] (hto) (by simp) (by simp) (by simp) (by simp) (by simp) ?_
       simp<;>(repeat' first|contradiction|exact .ok|apply And.intro|intro _|(refine gc (fun h=>?_) (fun h=>?_)<;>(have h':=h;(try simp at h');first|done|simp[h,h']|simp)))
       refine acallT_hand [1000000] (wo) (by simp) (by simp) (by simp) (by simp) (by simp) ?_
       simp<;>(repeat' first|contradiction|exact .ok|apply And.intro|intro _|(refine gc (fun h=>?_) (fun h=>?_)<;>(have h':=h;(try simp at h');first|done|simp[h,h']|simp)))
       refine acallT_hand [1000000] (take_noR hs h4 hst) (by simp) (by simp) (by simp) (by simp) (by simp) ?_
       simp<;>(repeat' first|contradiction|exact .ok|apply And.intro|intro _|(refine gc (fun h=>?_) (fun h=>?_)<;>(have h':=h;(try simp at h');first|done|simp[h,h']|simp)))
       refine acallT_hand [1000000] (take_noR hs h4 hdi) (by simp) (by simp) (by simp) (by simp) (by simp) ?_
       simp<;>(repeat' first|contradiction|exact .ok|apply And.intro|intro _|(refine gc (fun h=>?_) (fun h=>?_)<;>(have h':=h;(try simp at h');first|done|simp[h,h']|simp)))
       refine acallT_hand [1000000] (h5) (by simp) (by simp) (by simp) (by simp) (by simp) ?_
       simp<;>(repeat' first|contradiction|exact .ok|apply And.intro|intro _|(refine gc (fun h=>?_) (fun h=>?_)<;>(have h':=h;(try simp at h');first|done|simp[h,h']|simp)))
       refine acallT_hand [1000000] (w5) (by simp) (by simp) (by simp) (by simp) (by simp) ?_
       simp<;>(repeat' first|contradiction|exact .ok|apply And.intro|intro _|(refine gc (fun h=>?_) (fun h=>?_)<;>(have h':=h;(try simp at h');first|done|simp[h,h']|simp)))
       all_goals simp [aggF,Tm.c,tmsC]
 | false =>
   cases hw1:rIs wSum st with
   | true =>
     rw [if_neg (by rw [hw0]; exact Bool.false_ne_true),if_pos hw1] at hres
     simp only at hres
     have hlen:=is_len hw1
     have h3:=ha.kp (kp_is hw1)
     have hto:=take_yesR hs ha hw1
     generalize rNext st=st2 at *
     have wo:=r_want hs h3 wOpen
     have ko:=kp_want wOpen st2
     have h4:=h3.kp ko
     have l4:=ko.le
     generalize rWant wOpen st2=st3 at *
     rw [if_neg (fun h=>absurd h.1 (by decide)),if_neg (fun h=>absurd h.1 (by decide))] at hres
     have h5:=hq.run st3 h4 (by omega)
     have k5:=hq.kp st3
     have h6:=h4.kp k5
     generalize q st3=x at *
     obtain ⟨x,st4⟩:=x
     simp only at hres h5 k5 h6
     have w5:=r_want hs h6 wShut
     subst hres
     simp<;>(repeat' first|contradiction|exact .ok|apply And.intro|intro _|(refine gc (fun h=>?_) (fun h=>?_)<;>(have h':=h;(try simp at h');first|done|simp[h,h']|simp)))
     refine acallT_hand [1000000] (take_noR hs ha hw0) (by simp) (by simp) (by simp) (by simp) (by simp) ?_
     simp<;>(repeat' first|contradiction|exact .ok|apply And.intro|intro _|(refine gc (fun h=>?_) (fun h=>?_)<;>(have h':=h;(try simp at h');first|done|simp[h,h']|simp)))
     refine acallT_hand [1000000] (hto) (by simp) (by simp) (by simp) (by simp) (by simp) ?_
     simp<;>(repeat' first|contradiction|exact .ok|apply And.intro|intro _|(refine gc (fun h=>?_) (fun h=>?_)<;>(have h':=h;(try simp at h');first|done|simp[h,h']|simp)))
     refine acallT_hand [1000000] (wo) (by simp) (by simp) (by simp) (by simp) (by simp) ?_
     simp<;>(repeat' first|contradiction|exact .ok|apply And.intro|intro _|(refine gc (fun h=>?_) (fun h=>?_)<;>(have h':=h;(try simp at h');first|done|simp[h,h']|simp)))
     refine acallT_hand [1000000] (h5) (by simp) (by simp) (by simp) (by simp) (by simp) ?_
     simp<;>(repeat' first|contradiction|exact .ok|apply And.intro|intro _|(refine gc (fun h=>?_) (fun h=>?_)<;>(have h':=h;(try simp at h');first|done|simp[h,h']|simp)))
     refine acallT_hand [1000000] (w5) (by simp) (by simp) (by simp) (by simp) (by simp) ?_
     simp<;>(repeat' first|contradiction|exact .ok|apply And.intro|intro _|(refine gc (fun h=>?_) (fun h=>?_)<;>(have h':=h;(try simp at h');first|done|simp[h,h']|simp)))
     all_goals simp [aggF,Tm.c,tmsC]
   | false =>
     cases hw2:rIs wMin st with
     | true =>
       rw [if_neg (by rw [hw0]; exact Bool.false_ne_true),if_neg (by rw [hw1]; exact Bool.false_ne_true),if_pos hw2] at hres
       simp only at hres
       have hlen:=is_len hw2
       have h3:=ha.kp (kp_is hw2)
       have hto:=take_yesR hs ha hw2
       generalize rNext st=st2 at *
       have wo:=r_want hs h3 wOpen
       have ko:=kp_want wOpen st2
       have h4:=h3.kp ko
       have l4:=ko.le
       generalize rWant wOpen st2=st3 at *
       rw [if_neg (fun h=>absurd h.1 (by decide)),if_neg (fun h=>absurd h.1 (by decide))] at hres
       have h5:=hq.run st3 h4 (by omega)
       have k5:=hq.kp st3
       have h6:=h4.kp k5
       generalize q st3=x at *
       obtain ⟨x,st4⟩:=x
       simp only at hres h5 k5 h6
       have w5:=r_want hs h6 wShut
       subst hres
       simp<;>(repeat' first|contradiction|exact .ok|apply And.intro|intro _|(refine gc (fun h=>?_) (fun h=>?_)<;>(have h':=h;(try simp at h');first|done|simp[h,h']|simp)))
       refine acallT_hand [1000000] (take_noR hs ha hw0) (by simp) (by simp) (by simp) (by simp) (by simp) ?_
       simp<;>(repeat' first|contradiction|exact .ok|apply And.intro|intro _|(refine gc (fun h=>?_) (fun h=>?_)<;>(have h':=h;(try simp at h');first|done|simp[h,h']|simp)))
       refine acallT_hand [1000000] (take_noR hs ha hw1) (by simp) (by simp) (by simp) (by simp) (by simp) ?_
       simp<;>(repeat' first|contradiction|exact .ok|apply And.intro|intro _|(refine gc (fun h=>?_) (fun h=>?_)<;>(have h':=h;(try simp at h');first|done|simp[h,h']|simp)))
       refine acallT_hand [1000000] (hto) (by simp) (by simp) (by simp) (by simp) (by simp) ?_
       simp<;>(repeat' first|contradiction|exact .ok|apply And.intro|intro _|(refine gc (fun h=>?_) (fun h=>?_)<;>(have h':=h;(try simp at h');first|done|simp[h,h']|simp)))
       refine acallT_hand [1000000] (wo) (by simp) (by simp) (by simp) (by simp) (by simp) ?_
       simp<;>(repeat' first|contradiction|exact .ok|apply And.intro|intro _|(refine gc (fun h=>?_) (fun h=>?_)<;>(have h':=h;(try simp at h');first|done|simp[h,h']|simp)))
       refine acallT_hand [1000000] (h5) (by simp) (by simp) (by simp) (by simp) (by simp) ?_
       simp<;>(repeat' first|contradiction|exact .ok|apply And.intro|intro _|(refine gc (fun h=>?_) (fun h=>?_)<;>(have h':=h;(try simp at h');first|done|simp[h,h']|simp)))
       refine acallT_hand [1000000] (w5) (by simp) (by simp) (by simp) (by simp) (by simp) ?_
       simp<;>(repeat' first|contradiction|exact .ok|apply And.intro|intro _|(refine gc (fun h=>?_) (fun h=>?_)<;>(have h':=h;(try simp at h');first|done|simp[h,h']|simp)))
       all_goals simp [aggF,Tm.c,tmsC]
     | false =>
       cases hw3:rIs wMax st with
       | true =>
         rw [if_neg (by rw [hw0]; exact Bool.false_ne_true),if_neg (by rw [hw1]; exact Bool.false_ne_true),if_neg (by rw [hw2]; exact Bool.false_ne_true),if_pos hw3] at hres
         simp only at hres
         have hlen:=is_len hw3
         have h3:=ha.kp (kp_is hw3)
         have hto:=take_yesR hs ha hw3
         generalize rNext st=st2 at *
         have wo:=r_want hs h3 wOpen
         have ko:=kp_want wOpen st2
         have h4:=h3.kp ko
         have l4:=ko.le
         generalize rWant wOpen st2=st3 at *
         rw [if_neg (fun h=>absurd h.1 (by decide)),if_neg (fun h=>absurd h.1 (by decide))] at hres
         have h5:=hq.run st3 h4 (by omega)
         have k5:=hq.kp st3
         have h6:=h4.kp k5
         generalize q st3=x at *
         obtain ⟨x,st4⟩:=x
         simp only at hres h5 k5 h6
         have w5:=r_want hs h6 wShut
         subst hres
         simp<;>(repeat' first|contradiction|exact .ok|apply And.intro|intro _|(refine gc (fun h=>?_) (fun h=>?_)<;>(have h':=h;(try simp at h');first|done|simp[h,h']|simp)))
         refine acallT_hand [1000000] (take_noR hs ha hw0) (by simp) (by simp) (by simp) (by simp) (by simp) ?_
         simp<;>(repeat' first|contradiction|exact .ok|apply And.intro|intro _|(refine gc (fun h=>?_) (fun h=>?_)<;>(have h':=h;(try simp at h');first|done|simp[h,h']|simp)))
         refine acallT_hand [1000000] (take_noR hs ha hw1) (by simp) (by simp) (by simp) (by simp) (by simp) ?_
         simp<;>(repeat' first|contradiction|exact .ok|apply And.intro|intro _|(refine gc (fun h=>?_) (fun h=>?_)<;>(have h':=h;(try simp at h');first|done|simp[h,h']|simp)))
         refine acallT_hand [1000000] (take_noR hs ha hw2) (by simp) (by simp) (by simp) (by simp) (by simp) ?_
         simp<;>(repeat' first|contradiction|exact .ok|apply And.intro|intro _|(refine gc (fun h=>?_) (fun h=>?_)<;>(have h':=h;(try simp at h');first|done|simp[h,h']|simp)))
         refine acallT_hand [1000000] (hto) (by simp) (by simp) (by simp) (by simp) (by simp) ?_
         simp<;>(repeat' first|contradiction|exact .ok|apply And.intro|intro _|(refine gc (fun h=>?_) (fun h=>?_)<;>(have h':=h;(try simp at h');first|done|simp[h,h']|simp)))
         refine acallT_hand [1000000] (wo) (by simp) (by simp) (by simp) (by simp) (by simp) ?_
         simp<;>(repeat' first|contradiction|exact .ok|apply And.intro|intro _|(refine gc (fun h=>?_) (fun h=>?_)<;>(have h':=h;(try simp at h');first|done|simp[h,h']|simp)))
         refine acallT_hand [1000000] (h5) (by simp) (by simp) (by simp) (by simp) (by simp) ?_
         simp<;>(repeat' first|contradiction|exact .ok|apply And.intro|intro _|(refine gc (fun h=>?_) (fun h=>?_)<;>(have h':=h;(try simp at h');first|done|simp[h,h']|simp)))
         refine acallT_hand [1000000] (w5) (by simp) (by simp) (by simp) (by simp) (by simp) ?_
         simp<;>(repeat' first|contradiction|exact .ok|apply And.intro|intro _|(refine gc (fun h=>?_) (fun h=>?_)<;>(have h':=h;(try simp at h');first|done|simp[h,h']|simp)))
         all_goals simp [aggF,Tm.c,tmsC]
       | false =>
         rw [if_neg (by rw [hw0]; exact Bool.false_ne_true),if_neg (by rw [hw1]; exact Bool.false_ne_true),if_neg (by rw [hw2]; exact Bool.false_ne_true),if_neg (by rw [hw3]; exact Bool.false_ne_true)] at hres
         simp only at hres
         subst hres
         have hfl:=r_fail hs ha
         simp<;>(repeat' first|contradiction|exact .ok|apply And.intro|intro _|(refine gc (fun h=>?_) (fun h=>?_)<;>(have h':=h;(try simp at h');first|done|simp[h,h']|simp)))
         refine acallT_hand [1000000] (take_noR hs ha hw0) (by simp) (by simp) (by simp) (by simp) (by simp) ?_
         simp<;>(repeat' first|contradiction|exact .ok|apply And.intro|intro _|(refine gc (fun h=>?_) (fun h=>?_)<;>(have h':=h;(try simp at h');first|done|simp[h,h']|simp)))
         refine acallT_hand [1000000] (take_noR hs ha hw1) (by simp) (by simp) (by simp) (by simp) (by simp) ?_
         simp<;>(repeat' first|contradiction|exact .ok|apply And.intro|intro _|(refine gc (fun h=>?_) (fun h=>?_)<;>(have h':=h;(try simp at h');first|done|simp[h,h']|simp)))
         refine acallT_hand [1000000] (take_noR hs ha hw2) (by simp) (by simp) (by simp) (by simp) (by simp) ?_
         simp<;>(repeat' first|contradiction|exact .ok|apply And.intro|intro _|(refine gc (fun h=>?_) (fun h=>?_)<;>(have h':=h;(try simp at h');first|done|simp[h,h']|simp)))
         refine acallT_hand [1000000] (take_noR hs ha hw3) (by simp) (by simp) (by simp) (by simp) (by simp) ?_
         simp<;>(repeat' first|contradiction|exact .ok|apply And.intro|intro _|(refine gc (fun h=>?_) (fun h=>?_)<;>(have h':=h;(try simp at h');first|done|simp[h,h']|simp)))
         refine acallT_hand [1000000] (hfl) (by simp) (by simp) (by simp) (by simp) (by simp) ?_
         simp<;>(repeat' first|contradiction|exact .ok|apply And.intro|intro _|(refine gc (fun h=>?_) (fun h=>?_)<;>(have h':=h;(try simp at h');first|done|simp[h,h']|simp)))
         all_goals simp [zeT,mkT,Tm.c,tmsC]
end
end Go.Proofs.Tryz
