import Derived.Test.YthpmjipkofbeiaaGreatDoorURkp
set_option linter.all false
namespace Go.Proofs.Tryz
open Go.Ab
set_option maxRecDepth 100000
set_option maxHeartbeats 4000000
theorem nJ {α:Type} {f:α→α→Bool} (l:List α):cE f l []=(l.length==0):=by cases l <;> rfl
theorem aEa (f:Int) (a d s:Bool) (is:List It) (ft:List UInt8) (fq:List Sm) (fn:List UInt8) (js:List Jo) (w g h:List Tm) (ks:List Sm) :
  (Sm.mk f a d s is ft fq fn js w g h ks).eq (.mk f a false false [] [] [] [] [] [] [] [] ks)=(!d&&(!s&&(is.length==0&&(ft==[]&&(fq.length==0&&(fn==[]&&(js.length==0&&(w.length==0&&(g.length==0&&h.length==0))))))))):=by
 rw [Sm.eq,nG ks,lZ,kM,nJ,nJ,nJ,nJ,nJ,nJ]
 rw [Bool.eq_iff_iff]
 simp
 grind
theorem BF:∀ (m:Nat) (x:Sm),SizeOf.sizeOf x<m→x.fits→Cf Es 38 [x.a] [] (.d (.bool x.right)) []
 | 0,_,h,_=>absurd h (by omega)
 | m+1,x,hm,hfit=>by
   refine cI bI (fn:=Tryz.f38) rfl ?_
   have hq:=fun (a:Sm) (ha:SizeOf.sizeOf a<m) (fa:a.fits)=>BF m a ha fa
   have hsame:=aAn (m+1) x
   obtain ⟨f,al,d,s,is,ft,fq,fn,js,w,g,h,ks⟩:=x
   have hfq:∀ a∈fq,SizeOf.sizeOf a<m:=fun a ha=>by
    have:=Sm.q_lt (e:=.mk f al d s is ft fq fn js w g h ks) ha
    omega
   have hks:∀ a∈ks,SizeOf.sizeOf a<m:=fun a ha=>by
    have:=Sm.kid_lt (e:=.mk f al d s is ft fq fn js w g h ks) ha
    omega
   have hjs:∀ j∈js,∀ a∈j.qs,SizeOf.sizeOf a<m:=fun j hj a ha=>by
    have:=Sm.j_lt (e:=.mk f al d s is ft fq fn js w g h ks) hj
    have:=Jo.q_lt ha
    omega
   have hsame:=iQ (hsame (.mk f al false false [] [] [] [] [] [] [] [] ks) hm hfit)
   rw [aEa] at hsame
   rw [Sm.fits] at hfit
   obtain ⟨⟨fi1,fi2⟩,⟨fq1,fq2⟩,⟨fj1,fj2⟩,⟨fw1,fw2⟩,⟨fg1,fg2⟩,⟨fh1,fh2⟩,fk1,fk2⟩:=hfit
   have e1:=KJ ft fq fn fun a ha=>hq a (hfq a ha) (dB _ fq2 a ha)
   have e4:=xA w fw1 fw2
   have e5:=xA g fg1 fg2
   have e6:=xA h fh1 fh2
   have ek:∀ a∈ks,Cf Es 38 [a.a] [] (.d (.bool a.right)) []:=fun a ha=>hq a (hks a ha) (dB _ fk2 a ha)
   rw [Sm.right,← lJ,tW,fG,fG,fG,tV ks]
   generalize hS:lJ ft fq fn=S at *
   generalize hW:w.all Tm.right=W at *
   generalize hG:g.all Tm.right=G at *
   generalize hH:h.all Tm.right=H at *
   by_cases h1:f=1
   ·subst h1
    clear hsame ek
    rw [if_pos rfl]
    generalize hI:is.all kU=I at *
    generalize hJ:js.all Jo.right=J at *
    generalize hR:(!al&&(ks.length==0&&(s==(is.length==0)&&(decide (w.length≤1)&&(decide (h.length≤1)&&(S&&(I&&(J&&(W&&(G&&H))))))))))=R
    by_cases hA:al=false∧ks.length=0∧s=(is.length==0)∧w.length≤1∧h.length≤1
    ·obtain ⟨a1,a2,a3,a4,a5⟩:=hA
     have hR':(S&&(I&&(J&&(W&&(G&&H)))))=R:=by
      rw [← hR,a1,a2,a3]
      simp [a4,a5]
     clear hR
     have b2:¬ (0:Int)<ks.length:=by omega
     have b3:(s==decide (0<is.length))=false:=by
      rw [a3]
      cases is <;> simp
     have b4:¬ (1:Int)<w.length:=by omega
     have b5:¬ (1:Int)<h.length:=by omega
     have hli:=fi1
     simp [Sm.a,Sm.c,aE,aF,a1,a2,b3,b4,b5]
     refine gr ?_
     refine aL bI (fun i:Nat=>{ s:=eP [(1,.ptr 1 0 0),(4,.d (.int .i64 i))],b:=eG [(1,1,.var (Sm.a (.mk 1 al d s is ft fq fn js w g h ks)).cells)] }) (fun i:Nat=>i≤is.length∧(is.drop i).all kU=I) (fun i=>is.length - i) 0 (by simp [hI]) (aJ _ _ ⟨by simp,by simp,by simp [aD,Blk.live,Sm.a,Sm.c,aE,aF,a1],by simp⟩ (by simp [aD])) ?_
     rintro i ⟨hi,ho⟩
     by_cases hlt:i<is.length
     ·have hlt':(i:Int)<is.length:=by omega
      obtain ⟨x,hg⟩:∃ x,is[i]?=some x:=⟨_,gE hlt⟩
      have hgi:∀ h,is[i]'h=x:=fun h=>(List.getElem?_eq_some_iff.1 hg).2
      rw [mO hg] at ho
      have q1:=QZ _ x.t (Nat.lt_succ_self _) (pT fi2 (List.mem_of_getElem? hg))
      have q2:=CL x.n
      have hbad:kU x=false→R=false:=fun hh=>by
       rw [hh,Bool.false_and] at ho
       rw [← hR',← ho]; simp
      have hgood:kU x=true→(is.drop (i+1)).all kU=I:=fun hh=>by rw [hh,Bool.true_and] at ho; exact ho
      clear ho
      obtain ⟨⟨o0,y0,n0,t0,q0,ks0⟩,nm⟩:=x
      have hit:kU ⟨.mk o0 y0 n0 t0 q0 ks0,nm⟩=((Tm.mk o0 y0 n0 t0 q0 ks0).right&&rU nm):=rfl
      rw [hit] at hbad hgood
      simp only at q1 q2
      generalize (Tm.mk o0 y0 n0 t0 q0 ks0).right=X at *
      clear hit
      simp [Sm.a,Sm.c,aE,aF,hlt,hlt',hgi,It.c,Tm.c,aS]
      refine gr ?_
      refine aA q1 (by simp [Tm.a,Tm.c,aS]) ?_
      simp
      (repeat' (first|contradiction|exact .ok|apply And.intro|intro _|(refine gc (fun h=>?_) (fun h=>?_)<;>(have h':=h;(try simp at h');first|done|simp[h,h',hlt,hgi,It.c,Tm.c,aS]|simp[hlt,hlt',hg,hgi,It.c,Tm.c,aS]))))
      all_goals first | (refine aP q2 ?_; simp; (repeat' (first|contradiction|exact .ok|apply And.intro|intro _|(refine gc (fun h=>?_) (fun h=>?_)<;>(have h':=h;(try simp at h');first|done|simp[h,h',hlt,hlt',hg,hgi,It.c,Tm.c,aS]|simp[hlt,hlt',hg,hgi,It.c,Tm.c,aS]))))) | skip
      all_goals first
       | (refine ⟨i+1,⟨hlt,hgood ?_⟩,sM _ [(1,1,_)] (by simp [aD,Blk.live,aE,aF]) ?_,?_⟩
          ·clear hbad hgood; simp_all [rU]
          ·simp [aD]; exact aZ (by omega) (by omega)
          ·simp; omega)
       | (apply hbad; clear hbad hgood; simp_all [rU]; done)
     ·have hlt':¬ (i:Int)<is.length:=by omega
      rw [pA (by omega)] at ho
      rw [← ho,Bool.true_and] at hR'
      simp [Sm.a,Sm.c,aE,aF,hlt']
      refine gr ?_
      refine aL bI (fun i:Nat=>{ s:=eP [(1,.ptr 1 0 0),(5,.d (.int .i64 i))],b:=eG [(1,1,.var (Sm.a (.mk 1 al d s is ft fq fn js w g h ks)).cells)] }) (fun i:Nat=>i≤js.length∧(js.drop i).all Jo.right=J) (fun i=>js.length - i) 0 (by simp [hJ]) (sM _ [(1,1,_)] (by simp [aD,Blk.live,Sm.a,Sm.c,aE,aF]) (by simp [aD])) ?_
      clear hi ho hlt hlt' i
      rintro i ⟨hi,ho⟩
      by_cases hlt:i<js.length
      ·have hlt':(i:Int)<js.length:=by omega
       obtain ⟨x,hg⟩:∃ x,js[i]?=some x:=⟨_,gE hlt⟩
       have hgi:∀ h,js[i]'h=x:=fun h=>(List.getElem?_eq_some_iff.1 hg).2
       rw [mO hg] at ho
       have hxf:=jB _ fj2 x (List.mem_of_getElem? hg)
       have hxq:=hjs x (List.mem_of_getElem? hg)
       have hbad:x.right=false→R=false:=fun hh=>by
        rw [hh,Bool.false_and] at ho
        rw [← hR',← ho]; simp
       have hgood:x.right=true→(js.drop (i+1)).all Jo.right=J:=fun hh=>by rw [hh,Bool.true_and] at ho; exact ho
       clear ho
       obtain ⟨k0,t0,q0,n0,o0⟩:=x
       rw [Jo.fits] at hxf
       have q1:=KJ t0 q0 n0 fun a ha=>hq a (hxq a ha) (dB _ hxf.1.2 a ha)
       have q2:=xA o0 hxf.2.1 hxf.2.2
       rw [Jo.right,← lJ,fG] at hbad hgood
       generalize lJ t0 q0 n0=X at *
       generalize o0.all Tm.right=Y at *
       generalize hol:o0.length=L at *
       simp [Sm.a,Sm.c,aE,aF,hlt,hlt',hgi,Jo.c]
       refine gr ?_
       (repeat' (first|contradiction|exact .ok|apply And.intro|intro _|(refine gc (fun h=>?_) (fun h=>?_)<;>(have h':=h;(try simp at h');first|done|simp[h,h',hol]|simp[hlt,hlt',hg,hgi,Jo.c,aE,aF,hol]))))
       all_goals first | (refine aA q1 (by simp [jJ,kK,aE]) ?_; simp; (repeat' (first | contradiction | exact .of (by kernel_rfl) | refine And.intro ?_ ?_ | intro _ | (refine aI (fun h=>?_) (fun h=>?_) <;> (have h':=h; (try simp at h'); first | done | simp [h'] | simp [hlt,hlt',hg,hgi,Jo.c,aE,aF]))))) | skip
       all_goals first | (refine aP q2 ?_; simp; (repeat' (first|contradiction|exact .ok|apply And.intro|intro _|(refine gc (fun h=>?_) (fun h=>?_)<;>(have h':=h;(try simp at h');first|done|simp[h,h',hlt,hlt',hg,hgi,Jo.c,aE,aF]|simp[hlt,hlt',hg,hgi,Jo.c,aE,aF]))))) | skip
       clear q1 q2 hxf hxq hg hgi hq hfq hks hjs hR' hm
       all_goals first
        | (refine ⟨i+1,⟨hlt,hgood ?_⟩,sM _ [(1,1,_)] (by simp [aD,Blk.live,aE,aF]) ?_,?_⟩
           ·clear hbad hgood; by_cases hk0:k0=0 <;> by_cases hL0:L=0 <;> simp_all <;> omega
           ·simp [aD]; exact aZ (by omega) (by omega)
           ·simp; omega)
        | (apply hbad; clear hbad hgood; by_cases hk0:k0=0 <;> by_cases hL0:L=0 <;> simp_all <;> (first | omega | (exfalso; have x1:(k0==0)=false:=(by simpa using hk0); have x2:((L:Int)==0)=false:=(by simp [hL0]); simp only [x1,x2,not_true_eq_false] at *)))
      ·have hlt':¬ (i:Int)<js.length:=by omega
       rw [pA (by omega)] at ho
       rw [← ho,Bool.true_and] at hR'
       clear ho hI hJ hq hfq hks hjs hi hlt
       simp [Sm.a,Sm.c,aE,aF,hlt']
       refine gr ?_
       refine aA e1 (by simp [jJ,kK,aE]) ?_
       simp
       (repeat' (first|contradiction|exact .ok|apply And.intro|intro _|(refine gc (fun h=>?_) (fun h=>?_)<;>(have h':=h;(try simp at h');first|done|simp[h]|simp[aE,aF]))))
       all_goals first | (refine aP e4 ?_; simp; (repeat' (first | contradiction | exact .of (by kernel_rfl) | refine And.intro ?_ ?_ | intro _ | (refine aI (fun h=>?_) (fun h=>?_) <;> (have h':=h; (try simp at h'); first | done | simp [h] | simp [aE,aF]))))) | skip
       all_goals first | (refine aP e5 ?_; simp; (repeat' (first | contradiction | exact .of (by kernel_rfl) | refine And.intro ?_ ?_ | intro _ | (refine aI (fun h=>?_) (fun h=>?_) <;> (have h':=h; (try simp at h'); first | done | simp [h] | simp [aE,aF]))))) | skip
       all_goals first | (refine aP e6 ?_; simp; (repeat' (first|contradiction|exact .ok|apply And.intro|intro _|(refine gc (fun h=>?_) (fun h=>?_)<;>(have h':=h;(try simp at h');first|done|simp[h,h',aE,aF]|simp[aE,aF]))))) | skip
       all_goals (rw [← hR']; clear hR'; simp_all)
    ·have hRf:R=false:=by
      rw [← hR]
      cases hx:(!al&&(ks.length==0&&(s==(is.length==0)&&(decide (w.length≤1)&&(decide (h.length≤1)&&(S&&(I&&(J&&(W&&(G&&H)))))))))) with
      | false=>rfl
      | true =>
        simp only [Bool.and_eq_true,Bool.not_eq_true',beq_iff_eq,decide_eq_true_eq] at hx
        exact absurd ⟨hx.1,hx.2.1,hx.2.2.1,hx.2.2.2.1,hx.2.2.2.2.1⟩ hA
     subst hRf
     clear hR hq hfq hks hjs e1 e4 e5 e6 hI hJ
     simp [Sm.a,Sm.c,aE,aF]
     (repeat' (first|contradiction|exact .ok|apply And.intro|intro _|(refine gc (fun h=>?_) (fun h=>?_)<;>(have h':=h;(try simp at h');first|done|simp[h,h']|simp[aE,aF]))))
     all_goals (exfalso; apply hA; refine ⟨by assumption,by simp_all,?_,by omega,by omega⟩; cases is <;> cases s <;> simp_all)
   ·rw [if_neg h1]
    by_cases h2:f=2∨f=3∨f=4
    ·rw [if_pos h2]
     generalize hB:(!d&&(!s&&(is.length==0&&(ft==[]&&(fq.length==0&&(fn==[]&&(js.length==0&&(w.length==0&&(g.length==0&&h.length==0)))))))))=B at *
     match ks,ek,hsame with
     | [],ek,hsame =>
       clear ek hsame e1 e4 e5 e6 hq hfq hks hjs
       rcases h2 with rfl | rfl | rfl
       all_goals simp [Sm.a,Sm.c,aE,aF]
       all_goals ((repeat' (first|contradiction|exact .ok|apply And.intro|intro _|(refine gc (fun h=>?_) (fun h=>?_)<;>(have h':=h;(try simp at h');first|done|simp[h,h',aE,aF]|simp[aE,aF])))))
     | [x],ek,hsame =>
       clear ek hsame e1 e4 e5 e6 hq hfq hks hjs
       rcases h2 with rfl | rfl | rfl
       all_goals simp [Sm.a,Sm.c,aE,aF]
       all_goals ((repeat' (first|contradiction|exact .ok|apply And.intro|intro _|(refine gc (fun h=>?_) (fun h=>?_)<;>(have h':=h;(try simp at h');first|done|simp[h,h',aE,aF]|simp[aE,aF])))))
     | [x,y],ek,hsame =>
       have q1:=ek x (by simp)
       have q2:=ek y (by simp)
       have c1:=x.clen
       have k1:=x.ctake
       have c2:=y.clen
       have k2:=y.ctake
       simp only [List.all_cons,List.all_nil,Bool.and_true]
       generalize x.right=X at *
       generalize y.right=Y at *
       clear ek e1 e4 e5 e6 hq hfq hks hjs hm fk1 fk2
       rcases h2 with rfl | rfl | rfl
       all_goals simp [Sm.a,Sm.c,aE,aF]
       all_goals ((repeat' (first|contradiction|exact .ok|apply And.intro|intro _|(refine gc (fun h=>?_) (fun h=>?_)<;>(have h':=h;(try simp at h');first|done|simp[h,h',aE,aF]|simp[aE,aF])))))
       all_goals first | (refine aA hsame (by simp [Sm.a,Sm.c,aE,aF]) ?_; simp; (repeat' (first | contradiction | exact .of (by kernel_rfl) | refine And.intro ?_ ?_ | intro _ | (refine aI (fun h=>?_) (fun h=>?_) <;> (have h':=h; (try simp at h'); first | done | simp [h,c1,k1] | simp [aE,aF,c1,k1,c2,k2]))))) | skip
       all_goals first | (refine aA q1 (by simp [Sm.a]) ?_; simp; (repeat' (first | contradiction | exact .of (by kernel_rfl) | refine And.intro ?_ ?_ | intro _ | (refine aI (fun h=>?_) (fun h=>?_) <;> (have h':=h; (try simp at h'); first | done | simp [h,c2,k2] | simp [aE,aF,c1,k1,c2,k2]))))) | skip
       all_goals first | (refine aA q2 (by simp [Sm.a]) ?_; simp; (repeat' (first|contradiction|exact .ok|apply And.intro|intro _|(refine gc (fun h=>?_) (fun h=>?_)<;>(have h':=h;(try simp at h');first|done|simp[h,h',aE,aF,c1,k1,c2,k2]|simp[aE,aF,c1,k1,c2,k2]))))) | skip
       all_goals first | (simp_all; done) | skip
     | x::y::z::l,ek,hsame =>
       have hl2:((l.length:Int)+1+1+1==2)=false:=by simp; omega
       have hl3:¬ (l.length:Int)+1+1+1=2:=by omega
       clear ek hsame e1 e4 e5 e6 hq hfq hks hjs
       rcases h2 with rfl | rfl | rfl
       all_goals simp [Sm.a,Sm.c,aE,aF,hl2]
       all_goals ((repeat' (first|contradiction|exact .ok|apply And.intro|intro _|(refine gc (fun h=>?_) (fun h=>?_)<;>(have h':=h;(try simp at h');first|done|simp[h,h',aE,aF,hl2,hl3]|simp[aE,aF,hl2,hl3])))))
    ·have h2':¬ f=2:=fun e=>h2 (.inl e)
     have h3':¬ f=3:=fun e=>h2 (.inr (.inl e))
     have h4':¬ f=4:=fun e=>h2 (.inr (.inr e))
     rw [if_neg h2]
     clear hsame ek e1 e4 e5 e6 hq hfq hks hjs
     have n1:(f != 1)=true:=by simp [h1]
     have n2:(f==2)=false:=by simp [h2']
     have n3:(f==3)=false:=by simp [h3']
     have n4:(f==4)=false:=by simp [h4']
     simp [Sm.a,Sm.c,n1,n2,n3,n4]
     (repeat' (first|contradiction|exact .ok|apply And.intro|intro _|(refine gc (fun h=>?_) (fun h=>?_)<;>(have h':=h;(try simp at h');first|done|simp[h,h',h1,h2',h3',h4',n1,n2,n3,n4]|simp[h1,h2',h3',h4',n1,n2,n3,n4]))))
theorem aGQ (x:Sm) (hf:x.fits):Cf Es 15 [x.a] [] (.d (.bool (decide (x.dep≤24)&&x.right))) []:=by
 refine cI bI (fn:=Tryz.f15) rfl ?_
 have h1:=BF _ x (Nat.lt_succ_self _) hf
 have h2:=iQ (QA _ x (Nat.lt_succ_self _) hf)
 have c1:=x.clen
 have k1:=x.ctake
 simp [Sm.a,c1,k1]
 refine gr ?_
 refine aA h1 (by simp [Sm.a]) ?_
 simp
 (repeat' (first|contradiction|exact .ok|apply And.intro|intro _|(refine gc (fun h=>?_) (fun h=>?_)<;>(have h':=h;(try simp at h');first|done|simp[h,c1,k1]|simp[c1,k1]))))
 all_goals first | (refine aA h2 (by simp [Sm.a]) ?_; simp; (repeat' (first|contradiction|exact .ok|apply And.intro|intro _|(refine gc (fun h=>?_) (fun h=>?_)<;>(have h':=h;(try simp at h');first|done|simp[h,h']|simp))))) | skip
 all_goals simp_all
end Go.Proofs.Tryz
