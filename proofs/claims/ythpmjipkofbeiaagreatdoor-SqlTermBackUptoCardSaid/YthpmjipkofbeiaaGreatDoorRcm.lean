import Derived.Test.YthpmjipkofbeiaaGreatDoorRlv
set_option linter.all false
namespace Go.Proofs.Tryz
open Go.Ab
set_option maxRecDepth 100000
set_option maxHeartbeats 4000000
def cprR (p q:RS→Tm×RS) (st:RS):Tm×RS :=
    let a:=p st
    match rOne cmpW a.2 with
    | some i=>(mkT (14+i) [a.1,(p (rNext a.2)).1],(p (rNext a.2)).2)
    | none =>
      if rIs wIn a.2=true then
       let b:=q (rWant wOpen (rNext a.2))
       let m:=moreR q b.2.1.length [a.1,b.1] b.2
       (mkT 28 m.1,rWant wShut m.2)
      else if rIs wIs a.2=true then
       let s2:=rNext a.2
       if rIs wNull s2=true then (mkT 21 [a.1],rNext s2)
       else if rIs wTrue s2=true then (mkT 25 [a.1],rNext s2)
       else if rIs wNot s2=true then (mkT 24 [mkT 21 [a.1]],rWant wNull (rNext s2))
       else (a.1,rFail s2)
      else a
theorem rOne_some {ws:List (List UInt8)} {st:RS} {i:Nat} (hi:i<ws.length) (h0:∀ j (h:j<ws.length),j<i→rIs ws[j] st=false) (h1:rIs ws[i] st=true):rOne ws st=some i:=by
 obtain ⟨hb,hw⟩:=rIs_W h1
 unfold rOne oneOf
 rw [if_pos hb,List.findIdx?_eq_some_iff_getElem]
 refine ⟨hi,hw,fun j hj=>?_⟩
 have:=h0 j (by omega) hj
 unfold rIs at this
 simp only [hb,decide_true,Bool.true_and] at this
 rw [this]; simp
theorem rOne_none {ws:List (List UInt8)} {st:RS} (h0:∀ j (h:j<ws.length),rIs ws[j] st=false):rOne ws st=none:=by
 unfold rOne oneOf
 split
 ·rename_i hb
  rw [List.findIdx?_eq_none_iff]
  intro w hw
  obtain ⟨j,hj,rfl⟩:=List.getElem_of_mem hw
  have:=h0 j hj
  unfold rIs at this
  simpa [hb] using this
 ·rfl
section
variable {s:List UInt8} (hs:s.length≤5000) {L:Nat} {p q:RS→Tm×RS} {st:RS}
include hs
theorem r_comparison (hp:RuR s (L+1) 170 p) (hq:RuR s L 27 q) (hL:L≤10000) (ha:At (toks s) st.1) (hl:st.1.length≤L+1) :
  Cf Es 136 [.ptr 1000000 0 0] [rrB s st] (cprR p q st).1.a [rrB s (cprR p q st).2]:=by
 have h1:=hp.run st ha hl
 have k1:=hp.kp st
 have ha1:=ha.kp k1
 have hl1:=k1.le
 generalize hres:cprR p q st=res
 unfold cprR at hres
 refine cf_intro mixs (fn:=Tryz.f136) (by kernel_rfl) rfl (by kernel_rfl) (by decide) (by simp) ?_
 generalize p st=a at *
 obtain ⟨t,st1⟩:=a
 simp only at hres h1 k1 ha1 hl1
 simp<;>(repeat' first|contradiction|exact .ok|apply And.intro|intro _|(refine gc (fun h=>?_) (fun h=>?_)<;>(have h':=h;(try simp at h');first|done|simp[h,h']|simp)))
 refine acallT_hand [1000000] (h1) (by simp) (by simp) (by simp) (by simp) (by simp) ?_
 simp<;>(repeat' first|contradiction|exact .ok|apply And.intro|intro _|(refine gc (fun h=>?_) (fun h=>?_)<;>(have h':=h;(try simp at h');first|done|simp[h,h']|simp)))
 obtain ⟨ws,hws⟩:∃ ws,ws=cmpW:=⟨_,rfl⟩
 rw [← hws] at hres
 have hwl:ws.length=7:=by rw [hws]; rfl
 have hwm:ws.map (fun w=>[D.str w])=[[.str [61]],[.str [60,62]],[.str [60]],[.str [60,61]],[.str [62]],[.str [62,61]],[.str [115,97,109,101]]]:=by rw [hws]; rfl
 refine aloopT mixs (by decide) (fun i:Nat=>{ s:=mkS [(0,.ptr 1000000 0 0),(2,.ptr 2 0 0),(3,.ptr 3 0 0),(4,.d (.sl (ws.map fun w=>[.str w]))),(5,.d (.int .i64 i))],b:=mkB [(1000000,1000000,rrB s st1),(2,2,.var zTm),(3,3,.var (t.c.map AV.d))] })
  (fun i=>i≤7∧∀ j (h:j<ws.length),j<i→rIs ws[j] st1=false) (fun i=>7 - i) 0 ⟨by simp,fun j h hj=>by omega⟩
  (sub_mk _ [(1000000,1000000,_),(2,2,_),(3,3,_)] ⟨by simp,by simp,by simp [renOf,Blk.live],base1⟩ (by simp [renOf,hwm])) ?_
 rintro i ⟨hi,h0⟩
 by_cases hlt:i<7
 ·have hlt':(i:Int)<7:=by omega
  have hiw:i<ws.length:=by omega
  have hwr:=wrap_in (n:=(i:Int)+1) (by omega) (by omega)
  have hwr2:=wrap_in (n:=14+(i:Int)) (by omega) (by omega)
  obtain ⟨e,hee⟩:∃ e,e=ws[i]:=⟨_,rfl⟩
  have hge:∀ h,ws[i]'h=e:=fun _=>hee.symm
  cases hw:rIs e st1 with
  | true =>
    have ho:=rOne_some hiw (fun j h hj=>h0 j h hj) (by rw [← hee]; exact hw)
    rw [ho] at hres
    simp only at hres
    have hlen:=is_len hw
    have h3:=ha1.kp (kp_is hw)
    have h4:=hp.run (rNext st1) h3 (by omega)
    have hto:=take_yesR hs ha1 hw
    subst hres
    generalize rNext st1=st2 at *
    simp [hlt,hlt',hwl,hge,hwr2]<;>(repeat' first|contradiction|exact .ok|apply And.intro|intro _|(refine gc (fun h=>?_) (fun h=>?_)<;>(have h':=h;(try simp at h');first|done|simp[h,h',hlt,hlt',hwl,hge,hwr2]|simp[hlt,hlt',hwl,hge,hwr2])))
    refine acallT_hand [1000000] (hto) (by simp) (by simp) (by simp) (by simp) (by simp) ?_
    simp [hwr2]<;>(repeat' first|contradiction|exact .ok|apply And.intro|intro _|(refine gc (fun h=>?_) (fun h=>?_)<;>(have h':=h;(try simp at h');first|done|simp[h,h',hwr2]|simp[hwr2])))
    refine acallT_hand [1000000] (h4) (by simp) (by simp) (by simp) (by simp) (by simp) ?_
    simp [hwr2]<;>(repeat' first|contradiction|exact .ok|apply And.intro|intro _|(refine gc (fun h=>?_) (fun h=>?_)<;>(have h':=h;(try simp at h');first|done|simp[h,h',hwr2]|simp[hwr2])))
    refine acallT_plain (ups (r_two (14+i) t (p st2).1)) (by simp) ?_
    simp<;>(repeat' first|contradiction|exact .ok|apply And.intro|intro _|(refine gc (fun h=>?_) (fun h=>?_)<;>(have h':=h;(try simp at h');first|done|simp[h,h']|simp)))
  | false =>
    have hto:=take_noR hs ha1 hw
    simp [hlt,hlt',hwl,hge]<;>(repeat' first|contradiction|exact .ok|apply And.intro|intro _|(refine gc (fun h=>?_) (fun h=>?_)<;>(have h':=h;(try simp at h');first|done|simp[h,h',hlt,hlt',hwl,hge]|simp[hlt,hlt',hwl,hge])))
    refine acallT_hand [1000000] (hto) (by simp) (by simp) (by simp) (by simp) (by simp) ?_
    simp<;>(repeat' first|contradiction|exact .ok|apply And.intro|intro _|(refine gc (fun h=>?_) (fun h=>?_)<;>(have h':=h;(try simp at h');first|done|simp[h,h']|simp)))
    refine ⟨i+1,⟨by omega,fun j h hj=>?_⟩,?_,by simp only; omega⟩
    ·rcases Nat.lt_or_ge j i with c | c
     ·exact h0 j h c
     ·obtain rfl:j=i:=by omega
      rw [← hee]; exact hw
    exact sub_mk _ [(1000000,1000000,_),(2,2,_),(3,3,_)] ⟨by simp,by simp,by simp [renOf,Blk.live],base1⟩ (by simp [renOf,hwr])
 ·obtain rfl:i=7:=by omega
  have ho:=rOne_none (ws:=ws) (st:=st1) fun j h=>h0 j h (by omega)
  rw [ho] at hres
  simp only at hres
  simp [hwl]<;>(repeat' first|contradiction|exact .ok|apply And.intro|intro _|(refine gc (fun h=>?_) (fun h=>?_)<;>(have h':=h;(try simp at h');first|done|simp[h,h',hwl]|simp[hwl])))
  cases hin:rIs wIn st1 with
  | true =>
    rw [if_pos hin] at hres
    have hlen:=is_len hin
    have h3:=ha1.kp (kp_is hin)
    have hto:=take_yesR hs ha1 hin
    generalize rNext st1=st2 at *
    refine acallT_hand [1000000] (hto) (by simp) (by simp) (by simp) (by simp) (by simp) ?_
    simp<;>(repeat' first|contradiction|exact .ok|apply And.intro|intro _|(refine gc (fun h=>?_) (fun h=>?_)<;>(have h':=h;(try simp at h');first|done|simp[h,h']|simp)))
    have hwn:=r_want hs h3 wOpen
    have k3:=kp_want wOpen st2
    have h5:=h3.kp k3
    have hl5:=k3.le
    generalize rWant wOpen st2=st3 at *
    refine acallT_hand [1000000] (hwn) (by simp) (by simp) (by simp) (by simp) (by simp) ?_
    simp<;>(repeat' first|contradiction|exact .ok|apply And.intro|intro _|(refine gc (fun h=>?_) (fun h=>?_)<;>(have h':=h;(try simp at h');first|done|simp[h,h']|simp)))
    have h6:=hq.run st3 h5 (by omega)
    have k6:=hq.kp st3
    have h7:=h5.kp k6
    have hl7:=k6.le
    generalize q st3=b at *
    obtain ⟨b,st4⟩:=b
    simp only at hres h6 k6 h7 hl7
    refine acallT_hand [1000000] (h6) (by simp) (by simp) (by simp) (by simp) (by simp) ?_
    simp<;>(repeat' first|contradiction|exact .ok|apply And.intro|intro _|(refine gc (fun h=>?_) (fun h=>?_)<;>(have h':=h;(try simp at h');first|done|simp[h,h']|simp)))
    refine aloopT mixs (by decide) (fun y:List Tm×RS=>{ s:=mkS [(0,.ptr 1000000 0 0),(2,.ptr 2 0 0),(3,.ptr 3 0 0),(6,.ref 900 0 y.1.length 6)],b:=mkB [(1000000,1000000,rrB s y.2),(2,2,.var zTm),(3,3,.var (t.c.map AV.d)),(900,900,.arr 25 6 (y.1.map Tm.c) false)] })
     (fun y=>At (toks s) y.2.1∧y.2.1.length≤L∧y.1.length+y.2.1.length≤10002∧∃ k,y.2.1.length≤k∧(mkT 28 (moreR q k y.1 y.2).1,rWant wShut (moreR q k y.1 y.2).2)=res) (fun y=>y.2.1.length) ([t,b],st4) ⟨h7,by simp only; omega,by simp; omega,_,Nat.le_refl _,hres⟩
     (sub_mk _ [(1000000,1000000,_),(2,2,_),(3,3,_),(900,35,_)] ⟨by simp,by simp,by simp [renOf,Blk.live],base1⟩ (by simp [renOf])) ?_
    rintro ⟨ks,st5⟩ ⟨h8,hl8,hk2,k,hk,hr⟩
    simp only at h8 hl8 hk2 hk hr
    cases hcm:rIs wComma st5 with
    | true =>
      have hlen5:=is_len hcm
      obtain ⟨k,rfl⟩:∃ z,k=z+1:=⟨k - 1,by omega⟩
      rw [moreR,if_pos hcm] at hr
      have h9:=h8.kp (kp_is hcm)
      have hto5:=take_yesR hs h8 hcm
      generalize rNext st5=st6 at *
      have h10:=hq.run st6 h9 (by omega)
      have k10:=hq.kp st6
      have h11:=h9.kp k10
      have hl11:=k10.le
      generalize q st6=x at *
      obtain ⟨x,st7⟩:=x
      simp only at hr h10 k10 h11 hl11
      have hb:(ks.length+1)*80≤140737488355328∧ks.length≤9223372036854775806:=by omega
      simp<;>(repeat' first|contradiction|exact .ok|apply And.intro|intro _|(refine gc (fun h=>?_) (fun h=>?_)<;>(have h':=h;(try simp at h');first|done|simp[h,h']|simp)))
      refine acallT_hand [1000000] (hto5) (by simp) (by simp) (by simp) (by simp) (by simp) ?_
      simp<;>(repeat' first|contradiction|exact .ok|apply And.intro|intro _|(refine gc (fun h=>?_) (fun h=>?_)<;>(have h':=h;(try simp at h');first|done|simp[h,h']|simp)))
      refine acallT_hand [1000000] (h10) (by simp) (by simp) (by simp) (by simp) (by simp) ?_
      simp [hb]<;>(repeat' first|contradiction|exact .ok|apply And.intro|intro _|(refine gc (fun h=>?_) (fun h=>?_)<;>(have h':=h;(try simp at h');first|done|simp[h,h',hb]|simp[hb])))
      refine ⟨(ks++[x],st7),⟨h11,by simp only; omega,by simp; omega,k,by simp only; omega,hr⟩,?_,by simp only; omega⟩
      exact sub_mk _ [(1000000,1000000,_),(2,2,_),(3,3,_),(900,42,_)] ⟨by simp,by simp,by simp [renOf,Blk.live],base1⟩ (by simp [renOf])
    | false =>
      have hmr:moreR q k ks st5=(ks,st5):=by
       cases k with
       | zero=>rfl
       | succ k=>rw [moreR,if_neg (by rw [hcm]; exact Bool.false_ne_true)]
      rw [hmr] at hr
      simp only at hr
      subst hr
      have hwn2:=r_want hs h8 wShut
      simp<;>(repeat' first|contradiction|exact .ok|apply And.intro|intro _|(refine gc (fun h=>?_) (fun h=>?_)<;>(have h':=h;(try simp at h');first|done|simp[h,h']|simp)))
      refine acallT_hand [1000000] (take_noR hs h8 hcm) (by simp) (by simp) (by simp) (by simp) (by simp) ?_
      simp<;>(repeat' first|contradiction|exact .ok|apply And.intro|intro _|(refine gc (fun h=>?_) (fun h=>?_)<;>(have h':=h;(try simp at h');first|done|simp[h,h']|simp)))
      refine acallT_hand [1000000] (hwn2) (by simp) (by simp) (by simp) (by simp) (by simp) ?_
      simp<;>(repeat' first|contradiction|exact .ok|apply And.intro|intro _|(refine gc (fun h=>?_) (fun h=>?_)<;>(have h':=h;(try simp at h');first|done|simp[h,h']|simp)))
      all_goals simp [mkT,Tm.c,tmsC_map]
  | false =>
    rw [if_neg (by rw [hin]; exact Bool.false_ne_true)] at hres
    refine acallT_hand [1000000] (take_noR hs ha1 hin) (by simp) (by simp) (by simp) (by simp) (by simp) ?_
    simp<;>(repeat' first|contradiction|exact .ok|apply And.intro|intro _|(refine gc (fun h=>?_) (fun h=>?_)<;>(have h':=h;(try simp at h');first|done|simp[h,h']|simp)))
    cases his:rIs wIs st1 with
    | false =>
      rw [if_neg (by rw [his]; exact Bool.false_ne_true)] at hres
      subst hres
      refine acallT_hand [1000000] (take_noR hs ha1 his) (by simp) (by simp) (by simp) (by simp) (by simp) ?_
      simp<;>(repeat' first|contradiction|exact .ok|apply And.intro|intro _|(refine gc (fun h=>?_) (fun h=>?_)<;>(have h':=h;(try simp at h');first|done|simp[h,h']|simp)))
    | true =>
      rw [if_pos his] at hres
      have h3:=ha1.kp (kp_is his)
      have hto:=take_yesR hs ha1 his
      generalize rNext st1=st2 at *
      refine acallT_hand [1000000] (hto) (by simp) (by simp) (by simp) (by simp) (by simp) ?_
      simp<;>(repeat' first|contradiction|exact .ok|apply And.intro|intro _|(refine gc (fun h=>?_) (fun h=>?_)<;>(have h':=h;(try simp at h');first|done|simp[h,h']|simp)))
      cases hn:rIs wNull st2 with
      | true =>
        rw [if_pos hn] at hres
        subst hres
        refine acallT_hand [1000000] (take_yesR hs h3 hn) (by simp) (by simp) (by simp) (by simp) (by simp) ?_
        simp<;>(repeat' first|contradiction|exact .ok|apply And.intro|intro _|(refine gc (fun h=>?_) (fun h=>?_)<;>(have h':=h;(try simp at h');first|done|simp[h,h']|simp)))
        refine acallT_plain (ups (r_one 21 t)) (by simp) ?_
        simp<;>(repeat' first|contradiction|exact .ok|apply And.intro|intro _|(refine gc (fun h=>?_) (fun h=>?_)<;>(have h':=h;(try simp at h');first|done|simp[h,h']|simp)))
      | false =>
        rw [if_neg (by rw [hn]; exact Bool.false_ne_true)] at hres
        refine acallT_hand [1000000] (take_noR hs h3 hn) (by simp) (by simp) (by simp) (by simp) (by simp) ?_
        simp<;>(repeat' first|contradiction|exact .ok|apply And.intro|intro _|(refine gc (fun h=>?_) (fun h=>?_)<;>(have h':=h;(try simp at h');first|done|simp[h,h']|simp)))
        cases htr:rIs wTrue st2 with
        | true =>
          rw [if_pos htr] at hres
          subst hres
          refine acallT_hand [1000000] (take_yesR hs h3 htr) (by simp) (by simp) (by simp) (by simp) (by simp) ?_
          simp<;>(repeat' first|contradiction|exact .ok|apply And.intro|intro _|(refine gc (fun h=>?_) (fun h=>?_)<;>(have h':=h;(try simp at h');first|done|simp[h,h']|simp)))
          refine acallT_plain (ups (r_one 25 t)) (by simp) ?_
          simp<;>(repeat' first|contradiction|exact .ok|apply And.intro|intro _|(refine gc (fun h=>?_) (fun h=>?_)<;>(have h':=h;(try simp at h');first|done|simp[h,h']|simp)))
        | false =>
          rw [if_neg (by rw [htr]; exact Bool.false_ne_true)] at hres
          refine acallT_hand [1000000] (take_noR hs h3 htr) (by simp) (by simp) (by simp) (by simp) (by simp) ?_
          simp<;>(repeat' first|contradiction|exact .ok|apply And.intro|intro _|(refine gc (fun h=>?_) (fun h=>?_)<;>(have h':=h;(try simp at h');first|done|simp[h,h']|simp)))
          cases hno:rIs wNot st2 with
          | true =>
            rw [if_pos hno] at hres
            subst hres
            have h4:=h3.kp (kp_is hno)
            have hwn:=r_want hs h4 wNull
            refine acallT_hand [1000000] (take_yesR hs h3 hno) (by simp) (by simp) (by simp) (by simp) (by simp) ?_
            simp<;>(repeat' first|contradiction|exact .ok|apply And.intro|intro _|(refine gc (fun h=>?_) (fun h=>?_)<;>(have h':=h;(try simp at h');first|done|simp[h,h']|simp)))
            refine acallT_hand [1000000] (hwn) (by simp) (by simp) (by simp) (by simp) (by simp) ?_
            simp<;>(repeat' first|contradiction|exact .ok|apply And.intro|intro _|(refine gc (fun h=>?_) (fun h=>?_)<;>(have h':=h;(try simp at h');first|done|simp[h,h']|simp)))
            refine acallT_plain (ups (r_one 21 t)) (by simp) ?_
            simp<;>(repeat' first|contradiction|exact .ok|apply And.intro|intro _|(refine gc (fun h=>?_) (fun h=>?_)<;>(have h':=h;(try simp at h');first|done|simp[h,h']|simp)))
            refine acallT_plain (ups (r_one 24 (mkT 21 [t]))) (by simp) ?_
            simp<;>(repeat' first|contradiction|exact .ok|apply And.intro|intro _|(refine gc (fun h=>?_) (fun h=>?_)<;>(have h':=h;(try simp at h');first|done|simp[h,h']|simp)))
          | false =>
            rw [if_neg (by rw [hno]; exact Bool.false_ne_true)] at hres
            subst hres
            have hfl:=r_fail hs h3
            refine acallT_hand [1000000] (take_noR hs h3 hno) (by simp) (by simp) (by simp) (by simp) (by simp) ?_
            simp<;>(repeat' first|contradiction|exact .ok|apply And.intro|intro _|(refine gc (fun h=>?_) (fun h=>?_)<;>(have h':=h;(try simp at h');first|done|simp[h,h']|simp)))
            refine acallT_hand [1000000] (hfl) (by simp) (by simp) (by simp) (by simp) (by simp) ?_
            simp<;>(repeat' first|contradiction|exact .ok|apply And.intro|intro _|(refine gc (fun h=>?_) (fun h=>?_)<;>(have h':=h;(try simp at h');first|done|simp[h,h']|simp)))
end
end Go.Proofs.Tryz
