import Derived.Test.YthpmjipkofbeiaaGreatDoorTNxt
set_option linter.all false
namespace Go.Proofs.Tryz
open Go.Ab
set_option maxRecDepth 100000
set_option maxHeartbeats 4000000
theorem tw_cons {p:UInt8→Bool} {c:UInt8} {q:List UInt8} (h:p c=true):((c::q).takeWhile p).length=1+(q.takeWhile p).length:=by
 rw [List.takeWhile_cons,h,if_pos rfl,List.length_cons]
 omega
theorem tw_len (p:UInt8→Bool) (q:List UInt8):(q.takeWhile p).length≤q.length:=(List.takeWhile_sublist (l:=q) p).length_le
theorem ixB_con (c:UInt8):∀ s:List UInt8,decide (0≤ixB s c)=s.contains c:=by
 intro s
 unfold ixB
 cases h:s.findIdx? (·==c) with
 | none =>
   rw [List.findIdx?_eq_none_iff] at h
   have:s.contains c=false:=by
    cases hc:s.contains c with
    | false=>rfl
    | true =>
      have:=List.contains_iff_mem.1 hc
      have:=h c this
      simp at this
   rw [this]
   simp
 | some i =>
   obtain ⟨h1,h2,_⟩:=List.findIdx?_eq_some_iff_getElem.1 h
   have:s.contains c=true:=by
    refine List.contains_iff_mem.2 ?_
    rw [← (beq_iff_eq.1 h2)]
    exact List.getElem_mem h1
   rw [this]
   simp
def nxA (r:List UInt8):AV:=.tup [.d (.int .i64 (lexR r).1),.d (.int .i64 (lexR r).2.1)]
theorem p_next (c:UInt8) (q:List UInt8) (hs:(c::q).length≤5000):Cf Es 99 [.d (.str (c::q))] [] (nxA (c::q)) []:=by
 have hql:q.length+1≤5000:=hs
 have hc1:=ups (p_letter c)
 have hc2:=ups (p_digit c)
 unfold nxA
 refine cf_intro mixs (fn:=Tryz.f99) (by kernel_rfl) rfl (by kernel_rfl) (by decide) (by simp) ?_
 cases h1:lowr c with
 | true =>
   rw [h1] at hc1
   have hn:nameB c=true:=by unfold nameB; rw [h1]; rfl
   have hr:=ups (p_run 138 nameB p_next1 (c::q) (by omega))
   have ht:=tw_len nameB q
   rw [tw_cons hn] at hr
   have hl:lexR (c::q)=if 1+(q.takeWhile nameB).length≤16 then (1,1+(q.takeWhile nameB).length,(c::q).take (1+(q.takeWhile nameB).length),0) else (0,0,[],0):=by
    rw [lexR,if_pos h1]
   rw [hl]
   generalize 1+(q.takeWhile nameB).length=n at *
   simp<;>(repeat' first|contradiction|exact .ok|apply And.intro|intro _|(refine gc (fun h=>?_) (fun h=>?_)<;>(have h':=h;(try simp at h');first|done|simp[h,h']|simp)))
   refine acallT_plain hc1 (by simp) ?_
   simp<;>(repeat' first|contradiction|exact .ok|apply And.intro|intro _|(refine gc (fun h=>?_) (fun h=>?_)<;>(have h':=h;(try simp at h');first|done|simp[h,h']|simp)))
   refine acallT_plain hr (by simp) ?_
   by_cases h16:n≤16
   ·have h16':(n:Int)≤16:=by omega
    simp [h16,h16']<;>(repeat' first|contradiction|exact .ok|apply And.intro|intro _|(refine gc (fun h=>?_) (fun h=>?_)<;>(have h':=h;(try simp at h');first|done|simp[h,h',h16,h16']|simp[h16,h16'])))
   ·have h16':¬ (n:Int)≤16:=by omega
    simp [h16,h16']<;>(repeat' first|contradiction|exact .ok|apply And.intro|intro _|(refine gc (fun h=>?_) (fun h=>?_)<;>(have h':=h;(try simp at h');first|done|simp[h,h',h16,h16']|simp[h16,h16'])))
 | false =>
   rw [h1] at hc1
   simp<;>(repeat' first|contradiction|exact .ok|apply And.intro|intro _|(refine gc (fun h=>?_) (fun h=>?_)<;>(have h':=h;(try simp at h');first|done|simp[h,h']|simp)))
   refine acallT_plain hc1 (by simp) ?_
   simp<;>(repeat' first|contradiction|exact .ok|apply And.intro|intro _|(refine gc (fun h=>?_) (fun h=>?_)<;>(have h':=h;(try simp at h');first|done|simp[h,h']|simp)))
   cases h2:isDig c with
   | true =>
     rw [h2] at hc2
     have hr:=ups (p_run 139 isDig p_digit (c::q) (by omega))
     have ht:=tw_len isDig q
     rw [tw_cons h2] at hr
     have hl:lexR (c::q)=if (resP ((c::q).take (1+(q.takeWhile isDig).length))).2=0∧(resP ((c::q).take (1+(q.takeWhile isDig).length))).1.k=1 then
       (2,1+(q.takeWhile isDig).length,(c::q).take (1+(q.takeWhile isDig).length),(resP ((c::q).take (1+(q.takeWhile isDig).length))).1.n) else (0,0,[],0):=by
      rw [lexR,if_neg (by simp [h1]),if_pos h2]
     rw [hl]
     refine acallT_plain hc2 (by simp) ?_
     simp<;>(repeat' first|contradiction|exact .ok|apply And.intro|intro _|(refine gc (fun h=>?_) (fun h=>?_)<;>(have h':=h;(try simp at h');first|done|simp[h,h']|simp)))
     refine acallT_plain hr (by simp) ?_
     have hn1:1+(q.takeWhile isDig).length≤q.length+1:=by omega
     generalize 1+(q.takeWhile isDig).length=n at *
     have hpar:=upw (v_parse ((c::q).take n) (by simp; omega))
     obtain ⟨cq,hcq⟩:∃ cq,cq=c::q:=⟨_,rfl⟩
     have hcl:cq.length=q.length+1:=by rw [hcq]; rfl
     rw [← hcq] at hpar ⊢
     generalize resP (cq.take n)=res at *
     obtain ⟨⟨rk,rn,rt⟩,re⟩:=res
     simp [V.a,V.c] at hpar
     have hnl:(n:Int)≤(q.length:Int)+1:=by omega
     simp [hcl,hn1,hnl]<;>(repeat' first|contradiction|exact .ok|apply And.intro|intro _|(refine gc (fun h=>?_) (fun h=>?_)<;>(have h':=h;(try simp at h');first|done|simp[h,h',hcl,hn1,hnl]|simp[hcl,hn1,hnl])))
     refine acallT_plain hpar (by simp) ?_
     by_cases e0:re=0
     ·by_cases k1:rk=1
      ·simp [e0,k1]<;>(repeat' first|contradiction|exact .ok|apply And.intro|intro _|(refine gc (fun h=>?_) (fun h=>?_)<;>(have h':=h;(try simp at h');first|done|simp[h,h',e0,k1]|simp[e0,k1])))
      ·simp [e0,k1]<;>(repeat' first|contradiction|exact .ok|apply And.intro|intro _|(refine gc (fun h=>?_) (fun h=>?_)<;>(have h':=h;(try simp at h');first|done|simp[h,h',e0,k1]|simp[e0,k1])))
     ·simp [e0]<;>(repeat' first|contradiction|exact .ok|apply And.intro|intro _|(refine gc (fun h=>?_) (fun h=>?_)<;>(have h':=h;(try simp at h');first|done|simp[h,h',e0]|simp[e0])))
   | false =>
     rw [h2] at hc2
     refine acallT_plain hc2 (by simp) ?_
     by_cases h39:c=39
     ·subst h39
      have hix:=ups (f_indexByte q 39)
      have hq1:(1:Int)≤(q.length:Int)+1:=by omega
      cases hf:q.findIdx? (·==39) with
      | none =>
        have hl:lexR (39::q)=(0,0,[],0):=by rw [lexR,if_neg (by simp [h1]),if_neg (by simp [h2]),if_pos rfl,hf]
        rw [hl]
        have hz:ixB q 39=-1:=by unfold ixB; rw [hf]
        rw [hz] at hix
        simp [hq1]<;>(repeat' first|contradiction|exact .ok|apply And.intro|intro _|(refine gc (fun h=>?_) (fun h=>?_)<;>(have h':=h;(try simp at h');first|done|simp[h,h',hq1]|simp[hq1])))
        refine acallT_plain hix (by simp) ?_
        simp<;>(repeat' first|contradiction|exact .ok|apply And.intro|intro _|(refine gc (fun h=>?_) (fun h=>?_)<;>(have h':=h;(try simp at h');first|done|simp[h,h']|simp)))
      | some i =>
        have hi:=(List.findIdx?_eq_some_iff_getElem.1 hf).1
        have hl:lexR (39::q)=if (resP ((39::q).take (i+2))).2=0 then (3,i+2,(resP ((39::q).take (i+2))).1.t,0) else (0,0,[],0):=by
         rw [lexR,if_neg (by simp [h1]),if_neg (by simp [h2]),if_pos rfl,hf]
        have hz:ixB q 39=i:=by unfold ixB; rw [hf]
        rw [hz] at hix
        have hwr0:=wrap_in (n:=(i:Int)+2) (by omega) (by omega)
        obtain ⟨n,hn⟩:∃ n,n=i+2:=⟨_,rfl⟩
        obtain ⟨cq,hcq⟩:∃ cq,cq=(39:UInt8)::q:=⟨_,rfl⟩
        have hcl:cq.length=q.length+1:=by rw [hcq]; rfl
        have hpar:=upw (v_parse (cq.take n) (by simp; omega))
        rw [← hn,← hcq] at hl
        rw [show lexR (39::q)=_ from (congrArg lexR hcq.symm).trans hl]
        have hn2:(i:Int)+2=n:=by omega
        have hwr:IntKind.i64.wrap ((i:Int)+2)=n:=by rw [hwr0,hn2]
        have hgt:(1:Int)<n:=by omega
        generalize resP (cq.take n)=res at *
        obtain ⟨⟨rk,rn,rt⟩,re⟩:=res
        simp [V.a,V.c] at hpar
        have hnl:(n:Int)≤(q.length:Int)+1:=by omega
        have hnl2:n≤q.length+1:=by omega
        simp [hq1]<;>(repeat' first|contradiction|exact .ok|apply And.intro|intro _|(refine gc (fun h=>?_) (fun h=>?_)<;>(have h':=h;(try simp at h');first|done|simp[h,h',hq1]|simp[hq1])))
        refine acallT_plain hix (by simp) ?_
        rw [← hcq]
        simp [hwr,hgt,hcl,hnl,hnl2]<;>(repeat' first|contradiction|exact .ok|apply And.intro|intro _|(refine gc (fun h=>?_) (fun h=>?_)<;>(have h':=h;(try simp at h');first|done|simp[h,h',hwr,hgt,hcl,hnl,hnl2]|simp[hwr,hgt,hcl,hnl,hnl2])))
        refine acallT_plain hpar (by simp) ?_
        by_cases e0:re=0
        ·simp [e0]<;>(repeat' first|contradiction|exact .ok|apply And.intro|intro _|(refine gc (fun h=>?_) (fun h=>?_)<;>(have h':=h;(try simp at h');first|done|simp[h,h',e0]|simp[e0])))
        ·simp [e0]<;>(repeat' first|contradiction|exact .ok|apply And.intro|intro _|(refine gc (fun h=>?_) (fun h=>?_)<;>(have h':=h;(try simp at h');first|done|simp[h,h',e0]|simp[e0])))
     ·have hc39:((c.toNat:Int)==39)=false:=by
       rw [beq_eq_false_iff_ne]
       intro h
       exact h39 (UInt8.toNat_inj.1 (by simpa using (by omega:c.toNat=39)))
      have hix:=ups (f_indexByte oneB c)
      have hxc:=ixB_con c oneB
      have hl:lexR (c::q)=if q ≠ []∧twoW.contains ((c::q).take 2)=true then (4,2,(c::q).take 2,0) else if oneB.contains c=true then (4,1,[c],0) else (0,0,[],0):=by
       rw [lexR,if_neg (by simp [h1]),if_neg (by simp [h2]),if_neg h39]
      rw [hl]
      have hend:∀ b:Bool,oneB.contains c=b→(0≤ixB oneB c↔b=true):=fun b hb=>by
       rw [← hb,← hxc]; simp
      generalize oneB.contains c=ob at *
      generalize ixB oneB c=z at *
      have hzb:=hend ob rfl
      cases q with
      | nil =>
        rw [if_neg (by simp)]
        simp [hc39]<;>(repeat' first|contradiction|exact .ok|apply And.intro|intro _|(refine gc (fun h=>?_) (fun h=>?_)<;>(have h':=h;(try simp at h');first|done|simp[h,h',hc39]|simp[hc39])))
        refine acallT_plain hix (by simp [oneB]) ?_
        cases ob with
        | true =>
          have hz0:0≤z:=hzb.2 rfl
          simp [hz0]<;>(repeat' first|contradiction|exact .ok|apply And.intro|intro _|(refine gc (fun h=>?_) (fun h=>?_)<;>(have h':=h;(try simp at h');first|done|simp[h,h',hz0]|simp[hz0])))
        | false =>
          have hz0:¬ 0≤z:=fun h=>by cases hzb.1 h
          simp [hz0]<;>(repeat' first|contradiction|exact .ok|apply And.intro|intro _|(refine gc (fun h=>?_) (fun h=>?_)<;>(have h':=h;(try simp at h');first|done|simp[h,h',hz0]|simp[hz0])))
      | cons d q =>
        have hct:=ups (f_contains twoW [c,d] (by decide))
        have htk:(c::d::q).take 2=[c,d]:=rfl
        rw [htk]
        have hq2:(2:Int)≤(q.length:Int)+1+1:=by omega
        have hq3:(1:Int)<(q.length:Int)+1+1:=by omega
        cases hb:twoW.contains [c,d] with
        | true =>
          rw [hb] at hct
          rw [if_pos ⟨by simp,rfl⟩]
          simp [hc39,hq2,hq3]<;>(repeat' first|contradiction|exact .ok|apply And.intro|intro _|(refine gc (fun h=>?_) (fun h=>?_)<;>(have h':=h;(try simp at h');first|done|simp[h,h',hc39,hq2,hq3]|simp[hc39,hq2,hq3])))
          refine acallT_plain hct (by simp [twoW]) ?_
          simp<;>(repeat' first|contradiction|exact .ok|apply And.intro|intro _|(refine gc (fun h=>?_) (fun h=>?_)<;>(have h':=h;(try simp at h');first|done|simp[h,h']|simp)))
        | false =>
          rw [hb] at hct
          rw [if_neg (by simp)]
          simp [hc39,hq2,hq3]<;>(repeat' first|contradiction|exact .ok|apply And.intro|intro _|(refine gc (fun h=>?_) (fun h=>?_)<;>(have h':=h;(try simp at h');first|done|simp[h,h',hc39,hq2,hq3]|simp[hc39,hq2,hq3])))
          refine acallT_plain hct (by simp [twoW]) ?_
          simp<;>(repeat' first|contradiction|exact .ok|apply And.intro|intro _|(refine gc (fun h=>?_) (fun h=>?_)<;>(have h':=h;(try simp at h');first|done|simp[h,h']|simp)))
          refine acallT_plain hix (by simp [oneB]) ?_
          cases ob with
          | true =>
            have hz0:0≤z:=hzb.2 rfl
            simp [hz0]<;>(repeat' first|contradiction|exact .ok|apply And.intro|intro _|(refine gc (fun h=>?_) (fun h=>?_)<;>(have h':=h;(try simp at h');first|done|simp[h,h',hz0]|simp[hz0])))
          | false =>
            have hz0:¬ 0≤z:=fun h=>by cases hzb.1 h
            simp [hz0]<;>(repeat' first|contradiction|exact .ok|apply And.intro|intro _|(refine gc (fun h=>?_) (fun h=>?_)<;>(have h':=h;(try simp at h');first|done|simp[h,h',hz0]|simp[hz0])))
end Go.Proofs.Tryz
