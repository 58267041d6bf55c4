import Derived.Test.YtkkbepgccddjoaaGreatDoorCEnvR
set_option linter.all false
namespace Go.Proofs.Tryz
open Go.Ab
set_option maxRecDepth 100000
set_option maxHeartbeats 1000000
theorem NZ (c:UInt8):Cf Es 206 [.d (.int .u8 c.toNat)] [] (.d (.bool (uD c))) []:=by
 refine cI bM (fn:=Tryz.f206) rfl ?_
 unfold uD
 simp
 (repeat' (first|contradiction|exact .ok|apply And.intro|intro _|(refine gc (fun h=>?_) (fun h=>?_)<;>(have h':=h;(try simp at h');first|done|simp[h,h']|simp))))
 all_goals (first | (rw [Bool.eq_iff_iff]; simp; omega) | (simp; omega) | (simp_all; omega))
theorem OA:words.all kZ=true:=by decide
theorem YS {c:UInt8} {s:List UInt8} (hl:s.length≤15) (hc:uD c=true) :
  jL words (c::s)=(!kC (32::(c::(s++[32]))) (pY words)&&(c::s).all iT):=by
 have h:=fun hp=>tM (c::s) hp words OA
 rw [List.cons_append] at h
 unfold jL sR
 cases ha:(c::s).all iT with
 | false=>simp
 | true =>
   rw [h (FE ha)]
   simp [hc]
   omega
theorem aBt (s:List UInt8):Cf Es 157 [.d (.str s)] [] (.d (.bool (jL words s))) []:=by
 refine cI bM (fn:=Tryz.f157) rfl ?_
 cases s with
 | nil =>
   simp [jL,sR]
   all_goals exact gz
 | cons c s =>
   by_cases hl:s.length≤15
   ·have hl':¬ (16:Int)<(s.length:Int)+1:=by omega
    have hl3:¬ (16:Int)<(s.length:Int):=by omega
    simp [hl']
    refine ⟨.of (by kernel_rfl),?_⟩
    refine aP (NZ c) ?_
    simp
    refine aK (fun h=>?_) (fun h=>?_)
    ·have h':uD c=true:=by simpa using h
     have b1:1+(s.length+1)≤9223372036854775807:=by omega
     have b2:s.length+1+1≤9223372036854775807:=by omega
     have b3:s.length+1+1+1≤9223372036854775807:=by omega
     have b4:1+(s.length+1)+1≤9223372036854775807:=by omega
     simp [h',b1,b3]
     refine aA (SF (pY words) (32::((c::s)++[32])) (by decide)) (by simp [pY,words]) ?_
     rw [YS hl h']
     generalize hW:kC (32::(c::(s++[32]))) (pY words)=W
     generalize hA:(c::s).all iT=A
     cases W with
     | true =>
       simp [hW]
       all_goals exact gz
     | false =>
       simp [hW]
       obtain ⟨t,ht⟩:∃ t,t=c::s:=⟨_,rfl⟩
       have htl:(s.length:Int)+1=t.length:=by rw [ht]; simp
       have htn:t.length≤16:=by rw [ht]; simp; omega
       rw [← ht] at hA ⊢
       rw [htl]
       refine ⟨.of (by kernel_rfl),.of (by kernel_rfl),?_⟩
       refine aL bM (fun i:Nat=>{ s:=cE [(0,.d (.str t)),(25,.d (.int .i64 t.length)),(26,.d (.int .i64 i))],b:=cC [] }) (fun i:Nat=>i≤t.length∧∀ j (h:j<t.length),j<i→iT t[j]=true) (fun i=>t.length - i) 0 (by simp) (aI _ [] .nil (by simp)) ?_
       clear ht htl hl hl' hl3 h h' hW b1 b2 b3 b4
       rintro i ⟨hi,ho⟩
       by_cases hlt:i<t.length
       ·have hlt':(i:Int)<t.length:=by omega
        have hg:t[i]?=some t[i]:=gE hlt
        simp [hlt,hlt']
        refine ⟨.of (by kernel_rfl),.of (by kernel_rfl),.of (by kernel_rfl),?_⟩
        refine aP (NZ t[i]) ?_
        simp
        have hbad:iT t[i]=false→A=false:=fun h=>by
         rw [← hA]
         cases hx:t.all iT with
         | false=>rfl
         | true=>rw [List.all_eq_true.1 hx _ (List.getElem_mem hlt)] at h; cases h
        have hgood:iT t[i]=true→∀ j (h:j<t.length),j<i+1→iT t[j]=true:=fun h j hj hji=>by
         rcases Nat.lt_or_ge j i with c | c
         ·exact ho j hj c
         ·have:j=i:=by omega
          subst this
          exact h
        generalize hb:t[i]=b at *
        have hnb:iT b=(uD b||(decide (48≤b.toNat)&&decide (b.toNat≤57)||b.toNat==95)):=rfl
        clear ho hA hg
        (repeat' (first|contradiction|exact .ok|apply And.intro|intro _|(refine gc (fun h=>?_) (fun h=>?_)<;>(have h':=h;(try simp at h');first|done|simp[h,h']|simp))))
        all_goals first
         | (refine ⟨i+1,⟨hlt,hgood ?_⟩,aI _ [] .nil ?_,?_⟩
            ·clear hbad hgood hb; first | (rw [hnb]; simp_all; done) | (rw [hnb]; simp_all; omega)
            ·simp; exact bL (by omega) (by omega)
            ·simp; omega)
         | (apply hbad; clear hbad hgood hb; rw [hnb]; simp_all; done)
         | (apply hbad; clear hbad hgood hb; rw [hnb]; simp_all; omega)
       ·have hlt':¬ (i:Int)<t.length:=by omega
        have:A=true:=by
         rw [← hA,List.all_eq_true]
         intro x hx
         obtain ⟨j,hj,rfl⟩:=List.getElem_of_mem hx
         exact ho j hj (by omega)
        simp [hlt,hlt',this]
        exact ⟨.of (by kernel_rfl),.of (by kernel_rfl)⟩
    ·have h':uD c=false:=by simpa using h
     simp [h',jL,sR]
     all_goals exact gz
   ·have hn:jL words (c::s)=false:=by unfold jL; simp; intro h; omega
    rw [hn]
    have hl':(16:Int)<(s.length:Int)+1:=by omega
    simp [hl']
    (repeat' (first|contradiction|exact .ok|apply And.intro|intro _|(refine gc (fun h=>?_) (fun h=>?_)<;>(have h':=h;(try simp at h');first|done|simp[h,h',hl']|simp[hl']))))
    all_goals simp_all
theorem SP:Cf Es 169 [] [] (.d (.sl (words.map fun w=>[.str w]))) []:=by
 refine cI bM (fn:=Tryz.f169) rfl ?_
 simp [words]
 all_goals exact gz
theorem aBu (s:List UInt8):Cf Es 120 [.d (.str s)] [] (.d (.bool (jL words s))) []:=by
 refine cI bM (fn:=Tryz.f120) rfl ?_
 cases s with
 | nil =>
   simp [jL,sR]
   all_goals exact gz
 | cons c s =>
   by_cases hl:s.length≤15
   ·have hl':¬ (16:Int)<(s.length:Int)+1:=by omega
    have hl3:¬ (s.length:Int)+1<1:=by omega
    have hN:jL words (c::s)=(uD c&&((c::s).all iT&&!words.contains (c::s))):=by
     unfold jL sR
     simp
     omega
    rw [hN]
    generalize hA:(c::s).all iT=A
    generalize hW:words.contains (c::s)=W
    generalize hR:(uD c&&(A&&!W))=R
    by_cases hc:uD c=true
    ·have h1:¬ (c.toNat:Int)<97:=by unfold uD at hc; simp at hc; omega
     have h2:¬ (122:Int)<c.toNat:=by unfold uD at hc; simp at hc; omega
     simp [hl',hl3,h1,h2]
     obtain ⟨t,ht⟩:∃ t,t=c::s:=⟨_,rfl⟩
     have htl:(s.length:Int)+1=t.length:=by rw [ht]; simp
     have htn:t.length≤16:=by rw [ht]; simp; omega
     rw [← ht] at hA hW ⊢
     refine ⟨.of (by kernel_rfl),.of (by kernel_rfl),.of (by kernel_rfl),?_⟩
     refine aL bM (fun i:Nat=>{ s:=cE [(0,.d (.str t)),(3,.d (.int .i64 i))],b:=cC [] }) (fun i:Nat=>i≤t.length∧∀ j (h:j<t.length),j<i→iT t[j]=true) (fun i=>t.length - i) 0 (by simp) (aI _ [] .nil (by simp)) ?_
     clear ht htl hl hl' hl3 h1 h2
     rintro i ⟨hi,ho⟩
     by_cases hlt:i<t.length
     ·have hlt':(i:Int)<t.length:=by omega
      have hg:t[i]?=some t[i]:=gE hlt
      simp [hlt,hlt']
      refine ⟨.of (by kernel_rfl),?_⟩
      have hbad:iT t[i]=false→A=false:=fun h=>by
       rw [← hA]
       cases hx:t.all iT with
       | false=>rfl
       | true=>rw [List.all_eq_true.1 hx _ (List.getElem_mem hlt)] at h; cases h
      have hgood:iT t[i]=true→∀ j (h:j<t.length),j<i+1→iT t[j]=true:=fun h j hj hji=>by
       rcases Nat.lt_or_ge j i with c | c
       ·exact ho j hj c
       ·have:j=i:=by omega
        subst this
        exact h
      generalize hb:t[i]=b at *
      have hgi:∀ h,t[i]'h=b:=fun _=>hb
      have hnb:iT b=(decide (97≤b.toNat)&&decide (b.toNat≤122)||(decide (48≤b.toNat)&&decide (b.toNat≤57)||b.toNat==95)):=rfl
      clear ho hA
      (repeat' (first|contradiction|exact .ok|apply And.intro|intro _|(refine gc (fun h=>?_) (fun h=>?_)<;>(have h':=h;(try simp at h');first|done|simp[h,h',hlt,hgi]|simp[hg,hlt,hgi]))))
      all_goals first
       | (refine ⟨i+1,⟨hlt,hgood ?_⟩,aI _ [] .nil ?_,?_⟩
          ·clear hbad hgood hb hgi hR; first | (rw [hnb]; simp_all; done) | (rw [hnb]; simp_all; omega)
          ·simp; exact bL (by omega) (by omega)
          ·simp; omega)
       | (rw [← hR,show A=false by (apply hbad; clear hbad hgood hb hgi hR; first | (rw [hnb]; simp_all; done) | (rw [hnb]; simp_all; omega))]; simp)
     ·have hlt':¬ (i:Int)<t.length:=by omega
      have:A=true:=by
       rw [← hA,List.all_eq_true]
       intro x hx
       obtain ⟨j,hj,rfl⟩:=List.getElem_of_mem hx
       exact ho j hj (by omega)
      subst this
      clear ho hA hi
      simp [hlt,hlt']
      refine ⟨.of (by kernel_rfl),?_⟩
      refine aP SP ?_
      simp
      (repeat refine ⟨.of (by kernel_rfl),?_⟩)
      refine aL bM (fun i:Nat=>{ s:=cE [(0,.d (.str t)),(4,.d (.sl (words.map fun w=>[.str w]))),(5,.d (.int .i64 i))],b:=cC [] }) (fun i:Nat=>i≤words.length∧(words.drop i).contains t=W) (fun i=>words.length - i) 0 (by simp [← hW]) (aI _ [] .nil (by simp)) ?_
      clear hlt hlt' i
      rintro i ⟨hi,ho⟩
      by_cases hlt:i<words.length
      ·have hlt':(i:Int)<words.length:=by omega
       obtain ⟨v,hg⟩:∃ v,words[i]?=some v:=⟨_,gE hlt⟩
       have hgi:∀ h,words[i]'h=v:=fun h=>(List.getElem?_eq_some_iff.1 hg).2
       have hd:words.drop i=v::words.drop (i+1):=by rw [List.drop_eq_getElem_cons hlt,hgi]
       rw [hd] at ho
       simp [hlt,hlt',hgi]
       refine ⟨.of (by kernel_rfl),.of (by kernel_rfl),fun h=>⟨.of (by kernel_rfl),?_⟩,fun h=>⟨.of (by kernel_rfl),i+1,⟨hlt,?_⟩,aI _ [] .nil ?_,?_⟩⟩
       ·subst h
        simp at ho
        rw [← hR,← ho]; simp
       ·rw [← ho]
        simp
        intro e
        exact absurd e.symm h
       ·simp
        have:words.length=52:=rfl
        exact bL (by omega) (by omega)
       ·simp; omega
      ·have hlt':¬ (i:Int)<words.length:=by omega
       have hWf:W=false:=by
        rw [← ho,List.drop_eq_nil_of_le (by omega)]; rfl
       simp [hlt,hlt']
       refine ⟨.of (by kernel_rfl),.of (by kernel_rfl),?_⟩
       rw [← hR,hWf,hc]; rfl
    ·have hc':uD c=false:=by simpa using hc
     have hRf:R=false:=by rw [← hR,hc']; rfl
     subst hRf
     clear hR
     unfold uD at hc'
     simp [hl',hl3]
     (repeat' (first|contradiction|exact .ok|apply And.intro|intro _|(refine gc (fun h=>?_) (fun h=>?_)<;>(have h':=h;(try simp at h');first|done|simp[h,h']|simp[hl3]))))
     all_goals first | (simp_all; done) | (simp_all; omega)
   ·have hn:jL words (c::s)=false:=by unfold jL; simp; intro h; omega
    rw [hn]
    have hl':(16:Int)<(s.length:Int)+1:=by omega
    have hl3:¬ (s.length:Int)+1<1:=by omega
    have hl4:(1:Int)≤(s.length:Int)+1:=by omega
    simp [hl',hl3]
    (repeat' (first|contradiction|exact .ok|apply And.intro|intro _|(refine gc (fun h=>?_) (fun h=>?_)<;>(have h':=h;(try simp at h');first|done|simp[h,h',hl',hl3,hl4]|simp[hl',hl3,hl4]))))
    all_goals simp_all
end Go.Proofs.Tryz
