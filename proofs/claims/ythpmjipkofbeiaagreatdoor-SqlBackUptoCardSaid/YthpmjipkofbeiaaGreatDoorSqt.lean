import Derived.Test.YthpmjipkofbeiaaGreatDoorUShb
set_option linter.all false
namespace Go.Proofs.Tryz
open Go.Ab
set_option maxHeartbeats 1000000
theorem aGk:∀ (m:Nat) (x y:Sm),SizeOf.sizeOf x<m→x.fits→Cf En 109 [x.a,y.a] [] (.d (.bool (x.eq y))) []
 | 0,_,_,h,_=>absurd h (by omega)
 | m+1,x,y,hm,hfit=>by
   refine cI fQ (fn:=Tryz.f109) rfl ?_
   have hq:=fun (a:Sm) (ha:SizeOf.sizeOf a<m) (fa:a.fits) (b:Sm)=>aGk m a b ha fa
   obtain ⟨f,al,d,s,is,ft,fq,fn,js,w,g,h,ks⟩:=x
   obtain ⟨f',a',d',s',is',ft',fq',fn',js',w',g',h',ks'⟩:=y
   have hfq:∀ a∈fq,SizeOf.sizeOf a<m:=fun a ha=>by
    have:=Sm.q_lt (e:=.mk f al d s is ft fq fn js w g h ks) ha
    omega
   have hks:∀ a∈ks,SizeOf.sizeOf a<m:=fun a ha=>by
    have:=Sm.kid_lt (e:=.mk f al d s is ft fq fn js w g h ks) ha
    omega
   have hjs:∀ j∈js,∀ a∈j.qs,SizeOf.sizeOf a<m:=fun j hj a ha=>by
    have:=Sm.j_lt (e:=.mk f al d s is ft fq fn js w g h ks) hj
    have:=Jo.q_lt ha
    omega
   rw [Sm.fits] at hfit
   obtain ⟨⟨fi1,fi2⟩,⟨fq1,fq2⟩,⟨fj1,fj2⟩,⟨fw1,fw2⟩,⟨fg1,fg2⟩,⟨fh1,fh2⟩,fk1,fk2⟩:=hfit
   have e1:=BB ft fq fn ft' fq' fn' fq1 fun a ha b _=>hq a (hfq a ha) (dB _ fq2 a ha) b
   have e2:=aIS 150 is is' fi1 fun x hx y _=>aAu x y (pT fi2 hx)
   have e3:=aIT 151 js js' fj1 fun x hx y _=>aAv x y (jB _ fj2 x hx) fun a ha b _=>hq a (hjs x hx a ha) (by
    have:=jB _ fj2 x hx
    obtain ⟨k,t,q,n,o⟩:=x
    rw [Jo.fits] at this
    exact dB _ this.1.2 a ha) b
   have e4:=rF w w' fw1 fw2
   have e5:=rF g g' fg1 fg2
   have e6:=rF h h' fh1 fh2
   have e7:=aBI 109 ks ks' fk1 fun a ha b _=>hq a (hks a ha) (dB _ fk2 a ha) b
   rw [Sm.eq,← JY,lZ,kM ks ks']
   simp [Sm.a,Sm.c,aE,aF]<;>(repeat' first|contradiction|exact .ok|apply And.intro|intro _|(apply gc<;>simp+contextual))
   all_goals first | (refine aA e1 (by simp [jJ,kK,aE]) ?_; simp; (repeat' (first | contradiction | exact .of (by kernel_rfl) | refine And.intro ?_ ?_ | intro _ | (refine aI (fun h=>?_) (fun h=>?_) <;> (have h':=h; (try simp at h'); first | done | simp [h] | simp [aF,aE]))))) | skip
   all_goals first | (refine aP e2 ?_; simp; (repeat' (first | contradiction | exact .of (by kernel_rfl) | refine And.intro ?_ ?_ | intro _ | (refine aI (fun h=>?_) (fun h=>?_) <;> (have h':=h; (try simp at h'); first | done | simp [h] | simp [aF,aE]))))) | skip
   all_goals first | (refine aP e3 ?_; simp; (repeat' (first | contradiction | exact .of (by kernel_rfl) | refine And.intro ?_ ?_ | intro _ | (refine aI (fun h=>?_) (fun h=>?_) <;> (have h':=h; (try simp at h'); first | done | simp [h] | simp [aF,aE]))))) | skip
   all_goals first | (refine aP e4 ?_; simp; (repeat' (first | contradiction | exact .of (by kernel_rfl) | refine And.intro ?_ ?_ | intro _ | (refine aI (fun h=>?_) (fun h=>?_) <;> (have h':=h; (try simp at h'); first | done | simp [h] | simp [aF,aE]))))) | skip
   all_goals first | (refine aP e5 ?_; simp; (repeat' (first | contradiction | exact .of (by kernel_rfl) | refine And.intro ?_ ?_ | intro _ | (refine aI (fun h=>?_) (fun h=>?_) <;> (have h':=h; (try simp at h'); first | done | simp [h] | simp [aF,aE]))))) | skip
   all_goals first | (refine aP e6 ?_; simp; (repeat' (first | contradiction | exact .of (by kernel_rfl) | refine And.intro ?_ ?_ | intro _ | (refine aI (fun h=>?_) (fun h=>?_) <;> (have h':=h; (try simp at h'); first | done | simp [h] | simp [aF,aE]))))) | skip
   all_goals first | (refine aP e7 ?_; simp; (repeat' (first | contradiction | exact .of (by kernel_rfl) | refine And.intro ?_ ?_ | intro _ | (refine aI (fun h=>?_) (fun h=>?_) <;> (have h':=h; (try simp at h'); first | done | simp [h,h',aF,aE] | simp [aF,aE]))))) | skip
   all_goals simp_all
end Go.Proofs.Tryz
