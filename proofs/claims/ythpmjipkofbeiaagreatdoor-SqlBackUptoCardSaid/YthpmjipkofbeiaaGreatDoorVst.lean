import Derived.Test.YthpmjipkofbeiaaGreatDoorUSba
import Derived.Test.YthpmjipkofbeiaaGreatDoorSqt
set_option linter.all false
namespace Go.Proofs.Tryz
open Go.Ab
set_option maxRecDepth 100000
set_option maxHeartbeats 2000000
theorem pJ {α:Type} {f:α→α→Bool} (l:List α):cE f l []=(l.length==0):=by cases l <;> rfl
theorem aGS (f:Int) (a d s:Bool) (is:List It) (ft:List UInt8) (fq:List Sm) (fn:List UInt8) (js:List Jo) (w g h:List Tm) (ks:List Sm) :
  (Sm.mk f a d s is ft fq fn js w g h ks).eq (.mk f a false false [] [] [] [] [] [] [] [] ks)=(!d&&(!s&&(is.length==0&&(ft==[]&&(fq.length==0&&(fn==[]&&(js.length==0&&(w.length==0&&(g.length==0&&h.length==0))))))))):=by
 rw [Sm.eq,nG ks,lZ,kM,pJ,pJ,pJ,pJ,pJ,pJ]
 rw [Bool.eq_iff_iff]
 simp
 grind
theorem KK (s:List UInt8):Cf Es 105 [.d (.str s)] [] (.d (.bool (rU s))) []:=by
 refine cI bI (fn:=Tryz.f105) rfl ?_
 have hn:=CK s
 unfold rU
 simp
 (repeat' (first|contradiction|exact .ok|apply And.intro|intro _|(refine gc (fun h=>?_) (fun h=>?_)<;>(have h':=h;(try simp at h');first|done|simp[h,h']|simp))))
 all_goals first | (refine aP hn ?_; simp; (repeat' (first|contradiction|exact .ok|apply And.intro|intro _|(refine gc (fun h=>?_) (fun h=>?_)<;>(have h':=h;(try simp at h');first|done|simp[h,h']|simp))))) | skip
 all_goals simp_all
theorem aGT (x:It) (hx:x.t.fits):Cf Es 104 [x.a] [] (.d (.bool (kU x))) []:=by
 refine cI bI (fn:=Tryz.f104) rfl ?_
 have h1:=BE _ x.t (Nat.lt_succ_self _) hx
 have h2:=KK x.n
 obtain ⟨⟨o,y,n,t,q,ks⟩,nm⟩:=x
 unfold kU
 simp only at h1 h2 ⊢
 generalize hR:(Tm.mk o y n t q ks).right=R at *
 simp [It.a,It.c,Tm.c,aS]
 refine ⟨.ok,?_⟩
 refine aA h1 (by simp [Tm.a,Tm.c,aS]) ?_
 simp
 (repeat' (first|contradiction|exact .ok|apply And.intro|intro _|(refine gc (fun h=>?_) (fun h=>?_)<;>(have h':=h;(try simp at h');first|done|simp[h]|simp))))
 all_goals first | (refine aP h2 ?_; simp; (repeat' (first|contradiction|exact .ok|apply And.intro|intro _|(refine gc (fun h=>?_) (fun h=>?_)<;>(have h':=h;(try simp at h');first|done|simp[h,h']|simp))))) | skip
 all_goals simp_all
theorem KL (t:List UInt8) (q:List Sm) (n:List UInt8) (h:∀ x∈q,Cf Es 67 [x.a] [] (.d (.bool x.right)) []) :
  Cf Es 102 [jJ t q n] [] (.d (.bool (lJ t q n))) []:=by
 refine cI bI (fn:=Tryz.f102) rfl ?_
 have h1:=CK t
 have h2:=KK n
 have h3:=CK n
 unfold lJ
 match q,h with
 | [],_ =>
   simp [jJ,kK,oJ]
   refine gr ?_
   refine aP h1 ?_
   simp
   (repeat' (first|contradiction|exact .ok|apply And.intro|intro _|(refine gc (fun h=>?_) (fun h=>?_)<;>(have h':=h;(try simp at h');first|done|simp[h]|simp))))
   all_goals first | (refine aP h2 ?_; simp; (repeat' (first|contradiction|exact .ok|apply And.intro|intro _|(refine gc (fun h=>?_) (fun h=>?_)<;>(have h':=h;(try simp at h');first|done|simp[h,h']|simp))))) | skip
   all_goals simp_all
 | [x],h =>
   have h4:=h x List.mem_cons_self
   have c1:=x.clen
   have k1:=x.ctake
   rw [iL,iL]
   generalize hR:x.right=R at *
   simp [jJ,kK,oJ]
   (repeat' (first|contradiction|exact .ok|apply And.intro|intro _|(refine gc (fun h=>?_) (fun h=>?_)<;>(have h':=h;(try simp at h');first|done|simp[h,h']|simp[c1,k1]))))
   all_goals first | (refine aP h3 ?_; simp; (repeat' (first | contradiction | exact .of (by kernel_rfl) | refine And.intro ?_ ?_ | intro _ | (refine aI (fun h=>?_) (fun h=>?_) <;> (have h':=h; (try simp at h'); first | done | simp [h,c1,k1] | simp [c1,k1]))))) | skip
   all_goals first | (refine aA h4 (by simp [Sm.a]) ?_; simp; (repeat' (first|contradiction|exact .ok|apply And.intro|intro _|(refine gc (fun h=>?_) (fun h=>?_)<;>(have h':=h;(try simp at h');first|done|simp[h,h']|simp))))) | skip
   all_goals simp_all
 | x::y::l,_ =>
   have hl:¬ (l.length:Int)+1+1=0:=by omega
   have hl1:((l.length:Int)+1+1==1)=false:=by simp; omega
   have hl0:((l.length:Int)+1+1==0)=false:=by simp; omega
   simp [jJ,kK,oJ,aE,hl1,hl0]
   (repeat' (first|contradiction|exact .ok|apply And.intro|intro _|(refine gc (fun h=>?_) (fun h=>?_)<;>(have h':=h;(try simp at h');first|done|simp[h,h',hl,hl1,hl0]|simp[hl,hl1,hl0]))))
theorem aGU (x:Jo) (hx:x.fits) (h:∀ y∈x.qs,Cf Es 67 [y.a] [] (.d (.bool y.right)) []):Cf Es 107 [x.a] [] (.d (.bool x.right)) []:=by
 refine cI bI (fn:=Tryz.f107) rfl ?_
 obtain ⟨k,t,q,n,o⟩:=x
 rw [Jo.fits] at hx
 have h1:=WL 47 Tm.right o hx.2.1 fun x hx'=>BE _ x (Nat.lt_succ_self _) (dL _ hx.2.2 x hx')
 have h2:=KL t q n h
 rw [Jo.right,← lJ,fG]
 generalize hO:o.all Tm.right=O at *
 generalize hS:lJ t q n=S at *
 generalize hL:o.length=L at *
 by_cases hk:k=0
 ·subst hk
  simp [Jo.a,Jo.c,hL]
  (repeat' (first|contradiction|exact .ok|apply And.intro|intro _|(refine gc (fun h=>?_) (fun h=>?_)<;>(have h':=h;(try simp at h');first|done|simp[h,h']|simp[hL]))))
  all_goals first | (refine aP h1 ?_; simp; (repeat' (first | contradiction | exact .of (by kernel_rfl) | refine And.intro ?_ ?_ | intro _ | (refine aI (fun h=>?_) (fun h=>?_) <;> (have h':=h; (try simp at h'); first | done | simp [h] | simp))))) | skip
  all_goals first | (refine aA h2 (by simp [jJ,kK]) ?_; simp; (repeat' (first|contradiction|exact .ok|apply And.intro|intro _|(refine gc (fun h=>?_) (fun h=>?_)<;>(have h':=h;(try simp at h');first|done|simp[h,h']|simp))))) | skip
  all_goals first | (simp_all; done) | (simp_all; omega)
 ·simp [Jo.a,Jo.c,hk]
  (repeat' (first|contradiction|exact .ok|apply And.intro|intro _|(refine gc (fun h=>?_) (fun h=>?_)<;>(have h':=h;(try simp at h');first|done|simp[h,h',hL,hk]|simp[hL,hk]))))
  all_goals first | (refine aP h1 ?_; simp; (repeat' (first | contradiction | exact .of (by kernel_rfl) | refine And.intro ?_ ?_ | intro _ | (refine aI (fun h=>?_) (fun h=>?_) <;> (have h':=h; (try simp at h'); first | done | simp [h] | simp))))) | skip
  all_goals first | (refine aA h2 (by simp [jJ,kK]) ?_; simp; (repeat' (first|contradiction|exact .ok|apply And.intro|intro _|(refine gc (fun h=>?_) (fun h=>?_)<;>(have h':=h;(try simp at h');first|done|simp[h,h']|simp))))) | skip
  all_goals first | (simp_all; done) | (simp_all; omega)
theorem NU:∀ (m:Nat) (x:Sm),SizeOf.sizeOf x<m→x.fits→Cf Es 67 [x.a] [] (.d (.bool x.right)) []
 | 0,_,h,_=>absurd h (by omega)
 | m+1,x,hm,hfit=>by
   refine cI bI (fn:=Tryz.f67) rfl ?_
   have hq:=fun (a:Sm) (ha:SizeOf.sizeOf a<m) (fa:a.fits)=>NU m a ha fa
   have hsame:=aGk (m+1) x
   obtain ⟨f,al,d,s,is,ft,fq,fn,js,w,g,h,ks⟩:=x
   have hfq:∀ a∈fq,SizeOf.sizeOf a<m:=fun a ha=>by
    have:=Sm.q_lt (e:=.mk f al d s is ft fq fn js w g h ks) ha
    omega
   have hks:∀ a∈ks,SizeOf.sizeOf a<m:=fun a ha=>by
    have:=Sm.kid_lt (e:=.mk f al d s is ft fq fn js w g h ks) ha
    omega
   have hjs:∀ j∈js,∀ a∈j.qs,SizeOf.sizeOf a<m:=fun j hj a ha=>by
    have:=Sm.j_lt (e:=.mk f al d s is ft fq fn js w g h ks) hj
    have:=Jo.q_lt ha
    omega
   have hsame:=iQ (hsame (.mk f al false false [] [] [] [] [] [] [] [] ks) hm hfit)
   rw [aGS] at hsame
   rw [Sm.fits] at hfit
   obtain ⟨⟨fi1,fi2⟩,⟨fq1,fq2⟩,⟨fj1,fj2⟩,⟨fw1,fw2⟩,⟨fg1,fg2⟩,⟨fh1,fh2⟩,fk1,fk2⟩:=hfit
   have form:=fun (x:Tm) (fx:x.fits)=>BE _ x (Nat.lt_succ_self _) fx
   have e1:=KL ft fq fn fun a ha=>hq a (hfq a ha) (dB _ fq2 a ha)
   have e2:=aNA 104 kU is fi1 fun x hx=>aGT x (pT fi2 hx)
   have e3:=aNC 107 Jo.right js fj1 fun x hx=>by
    have h1:=jB _ fj2 x hx
    refine aGU x h1 fun a ha=>hq a (hjs x hx a ha) ?_
    obtain ⟨k,t,q,n,o⟩:=x
    rw [Jo.fits] at h1
    exact dB _ h1.1.2 a ha
   have e4:=WL 47 Tm.right w fw1 fun x hx=>form x (dL _ fw2 x hx)
   have e5:=WL 47 Tm.right g fg1 fun x hx=>form x (dL _ fg2 x hx)
   have e6:=WL 47 Tm.right h fh1 fun x hx=>form x (dL _ fh2 x hx)
   have e7:=aNE 67 Sm.right ks fk1 fun a ha=>hq a (hks a ha) (dB _ fk2 a ha)
   rw [Sm.right,← lJ,tW,fG,fG,fG,tV ks]
   generalize hS:lJ ft fq fn=S at *
   generalize hI:is.all kU=I at *
   generalize hJ:js.all Jo.right=J at *
   generalize hW:w.all Tm.right=W at *
   generalize hG:g.all Tm.right=G at *
   generalize hH:h.all Tm.right=H at *
   generalize hK:ks.all Sm.right=K at *
   clear hq hfq hks hjs hm fi1 fi2 fq1 fq2 fj1 fj2 fw1 fw2 fg1 fg2 fh1 fh2 fk1 fk2 form
   by_cases h1:f=1
   ·subst h1
    clear hsame
    generalize hlk:ks.length=lk
    generalize hli:is.length=li
    generalize hlw:w.length=lw
    generalize hlh:h.length=lh
    rw [show (li==0)=((li:Int)==0) by rw [Bool.eq_iff_iff]; simp]
    simp [Sm.a,Sm.c,aE,aF,hlk]
    (repeat' (first|contradiction|exact .ok|apply And.intro|intro _|(refine gc (fun h=>?_) (fun h=>?_)<;>(have h':=h;(try simp at h');first|done|simp[h,h',hlk,hli,hlw,hlh]|simp[aE,aF,hlk,hli,hlw,hlh]))))
    all_goals first | (refine aA e1 (by simp [jJ,kK,aE]) ?_; simp; (repeat' (first | contradiction | exact .of (by kernel_rfl) | refine And.intro ?_ ?_ | intro _ | (refine aI (fun h=>?_) (fun h=>?_) <;> (have h':=h; (try simp at h'); first | done | simp [h] | simp [aF,aE]))))) | skip
    all_goals first | (refine aP e2 ?_; simp; (repeat' (first | contradiction | exact .of (by kernel_rfl) | refine And.intro ?_ ?_ | intro _ | (refine aI (fun h=>?_) (fun h=>?_) <;> (have h':=h; (try simp at h'); first | done | simp [h] | simp [aF,aE]))))) | skip
    all_goals first | (refine aP e3 ?_; simp; (repeat' (first | contradiction | exact .of (by kernel_rfl) | refine And.intro ?_ ?_ | intro _ | (refine aI (fun h=>?_) (fun h=>?_) <;> (have h':=h; (try simp at h'); first | done | simp [h] | simp [aF,aE]))))) | skip
    all_goals first | (refine aP e4 ?_; simp; (repeat' (first | contradiction | exact .of (by kernel_rfl) | refine And.intro ?_ ?_ | intro _ | (refine aI (fun h=>?_) (fun h=>?_) <;> (have h':=h; (try simp at h'); first | done | simp [h] | simp [aF,aE]))))) | skip
    all_goals first | (refine aP e5 ?_; simp; (repeat' (first | contradiction | exact .of (by kernel_rfl) | refine And.intro ?_ ?_ | intro _ | (refine aI (fun h=>?_) (fun h=>?_) <;> (have h':=h; (try simp at h'); first | done | simp [h] | simp [aF,aE]))))) | skip
    all_goals first | (refine aP e6 ?_; simp; (repeat' (first|contradiction|exact .ok|apply And.intro|intro _|(refine gc (fun h=>?_) (fun h=>?_)<;>(have h':=h;(try simp at h');first|done|simp[h,h',aF,aE]|simp[aF,aE]))))) | skip
    all_goals first | (simp_all; done) | (simp_all; omega) | (by_cases b1:lw≤1 <;> by_cases b2:lh≤1 <;> simp_all <;> done) | (by_cases b1:lw≤1 <;> by_cases b2:lh≤1 <;> simp_all <;> omega)
   ·by_cases h2:f=2∨f=3∨f=4
    ·rw [if_neg h1,if_pos h2]
     generalize hB:(!d&&(!s&&(is.length==0&&(ft==[]&&(fq.length==0&&(fn==[]&&(js.length==0&&(w.length==0&&(g.length==0&&h.length==0)))))))))=B at *
     generalize hlk:ks.length=lk
     rcases h2 with rfl | rfl | rfl
     all_goals simp [Sm.a,Sm.c,aE,aF,hlk]
     all_goals ((repeat' (first|contradiction|exact .ok|apply And.intro|intro _|(refine gc (fun h=>?_) (fun h=>?_)<;>(have h':=h;(try simp at h');first|done|simp[h,h']|simp[aE,aF,hlk])))))
     all_goals first | (refine aP e7 ?_; simp; (repeat' (first | contradiction | exact .of (by kernel_rfl) | refine And.intro ?_ ?_ | intro _ | (refine aI (fun h=>?_) (fun h=>?_) <;> (have h':=h; (try simp at h'); first | done | simp [h] | simp [aF,aE]))))) | skip
     all_goals first | (refine aA hsame (by simp [Sm.a,Sm.c,aF,aE]) ?_; simp; (repeat' (first|contradiction|exact .ok|apply And.intro|intro _|(refine gc (fun h=>?_) (fun h=>?_)<;>(have h':=h;(try simp at h');first|done|simp[h,h',aF,aE]|simp[aF,aE]))))) | skip
     all_goals first | (simp_all; done) | (simp_all; omega)
    ·have h2':¬ f=2:=fun e=>h2 (.inl e)
     have h3':¬ f=3:=fun e=>h2 (.inr (.inl e))
     have h4':¬ f=4:=fun e=>h2 (.inr (.inr e))
     rw [if_neg h1,if_neg h2]
     simp [Sm.a,Sm.c,h1,h2',h3',h4']
     (repeat' (first|contradiction|exact .ok|apply And.intro|intro _|(refine gc (fun h=>?_) (fun h=>?_)<;>(have h':=h;(try simp at h');first|done|simp[h,h',h1,h2',h3',h4']|simp[h1,h2',h3',h4']))))
theorem aJo (x:Sm) (hf:x.fits) (hs:x.small):Cf Es 36 [x.a] [] (.d (.bool (decide (x.dep≤24)&&x.right))) []:=by
 refine cI bI (fn:=Tryz.f36) rfl ?_
 have h1:=iQ (QJ _ x (Nat.lt_succ_self _) hf hs)
 have h2:=NU _ x (Nat.lt_succ_self _) hf
 have c1:=x.clen
 have k1:=x.ctake
 simp [Sm.a,c1,k1]
 refine gr ?_
 refine aA h1 (by simp [Sm.a]) ?_
 simp
 (repeat' (first|contradiction|exact .ok|apply And.intro|intro _|(refine gc (fun h=>?_) (fun h=>?_)<;>(have h':=h;(try simp at h');first|done|simp[h,h',c1,k1]|simp[c1,k1]))))
 all_goals first | (refine aA h2 (by simp [Sm.a]) ?_; simp; (repeat' (first|contradiction|exact .ok|apply And.intro|intro _|(refine gc (fun h=>?_) (fun h=>?_)<;>(have h':=h;(try simp at h');first|done|simp[h,h']|simp))))) | skip
 all_goals simp_all
end Go.Proofs.Tryz
