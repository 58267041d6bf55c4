import Derived.Test.YthpmjipkofbeiaaGreatDoorTFdx
set_option linter.all false
namespace Go.Proofs.Tryz
open Go.Ab
set_option maxRecDepth 100000
set_option maxHeartbeats 1000000
theorem s_letter (c:UInt8):Cf Es 124 [.d (.int .u8 c.toNat)] [] (.d (.bool (lowr c))) []:=by
 refine cf_intro mixs (fn:=Tryz.f124) (by kernel_rfl) rfl (by kernel_rfl) (by decide) (by simp) ?_
 unfold lowr
 simp
 (repeat' (first|contradiction|exact .ok|apply And.intro|intro _|(refine gc (fun h=>?_) (fun h=>?_)<;>(have h':=h;(try simp at h');first|done|simp[h,h']|simp))))
 all_goals (first | (rw [Bool.eq_iff_iff]; simp; omega) | (simp; omega) | (simp_all; omega))
theorem words_plain:words.all plainW=true:=by decide
theorem nameOk_eq {c:UInt8} {s:List UInt8} (hl:s.length≤15) (hc:lowr c=true) :
  nameOk words (c::s)=(!within (32::(c::(s++[32]))) (spaced words)&&(c::s).all nameB):=by
 have h:=fun hp=>within_spaced (c::s) hp words words_plain
 rw [List.cons_append] at h
 unfold nameOk headLow
 cases ha:(c::s).all nameB with
 | false=>simp
 | true =>
   rw [h (plain_of_name ha)]
   simp [hc]
   omega
theorem s_name (s:List UInt8):Cf Es 84 [.d (.str s)] [] (.d (.bool (nameOk words s))) []:=by
 refine cf_intro mixs (fn:=Tryz.f84) (by kernel_rfl) rfl (by kernel_rfl) (by decide) (by simp) ?_
 cases s with
 | nil =>
   simp [nameOk,headLow]
   all_goals exact gz
 | cons c s =>
   by_cases hl:s.length≤15
   ·have hl':¬ (16:Int)<(s.length:Int)+1:=by omega
    have hl3:¬ (16:Int)<(s.length:Int):=by omega
    simp [hl,hl']
    refine ⟨.of (by kernel_rfl),?_⟩
    refine acallT_plain (s_letter c) (by simp) ?_
    simp [hl,hl']
    refine agrd_cases (fun h=>?_) (fun h=>?_)
    ·have h':lowr c=true:=by simpa using h
     have b1:1+(s.length+1)≤9223372036854775807:=by omega
     have b2:s.length+1+1≤9223372036854775807:=by omega
     have b3:s.length+1+1+1≤9223372036854775807:=by omega
     have b4:1+(s.length+1)+1≤9223372036854775807:=by omega
     simp [h,h',b1,b2,b3,b4]
     refine acallT_plain (c_contains (spaced words) (32::((c::s)++[32])) (by decide)) (by simp [spaced,words]) ?_
     rw [nameOk_eq hl h']
     generalize hW:within (32::(c::(s++[32]))) (spaced words)=W
     generalize hA:(c::s).all nameB=A
     cases W with
     | true =>
       simp [h,h',hW]
       all_goals exact gz
     | false =>
       simp [h,h',hW]
       obtain ⟨t,ht⟩:∃ t,t=c::s:=⟨_,rfl⟩
       have htl:(s.length:Int)+1=t.length:=by rw [ht]; simp
       have htn:t.length≤16:=by rw [ht]; simp; omega
       rw [← ht] at hA ⊢
       rw [htl]
       refine ⟨.of (by kernel_rfl),.of (by kernel_rfl),?_⟩
       refine aloopT mixs (by decide) (fun i:Nat=>{ s:=mkS [(0,.d (.str t)),(25,.d (.int .i64 t.length)),(26,.d (.int .i64 i))],b:=mkB [] }) (fun i:Nat=>i≤t.length∧∀ j (h:j<t.length),j<i→nameB t[j]=true) (fun i=>t.length - i) 0 (by simp) (sub_mk _ [] .nil (by simp)) ?_
       clear ht htl hl hl' hl3 h h' hW b1 b2 b3 b4
       rintro i ⟨hi,ho⟩
       by_cases hlt:i<t.length
       ·have hlt':(i:Int)<t.length:=by omega
        have hg:t[i]?=some t[i]:=List.getElem?_eq_getElem hlt
        simp [hlt,hlt',hg]
        refine ⟨.of (by kernel_rfl),.of (by kernel_rfl),.of (by kernel_rfl),?_⟩
        refine acallT_plain (s_letter t[i]) (by simp) ?_
        simp
        have hbad:nameB t[i]=false→A=false:=fun h=>by
         rw [← hA]
         cases hx:t.all nameB with
         | false=>rfl
         | true=>rw [List.all_eq_true.1 hx _ (List.getElem_mem hlt)] at h; cases h
        have hgood:nameB t[i]=true→∀ j (h:j<t.length),j<i+1→nameB t[j]=true:=fun h j hj hji=>by
         rcases Nat.lt_or_ge j i with c | c
         ·exact ho j hj c
         ·have:j=i:=by omega
          subst this
          exact h
        generalize hb:t[i]=b at *
        have hnb:nameB b=(lowr b||(decide (48≤b.toNat)&&decide (b.toNat≤57)||b.toNat==95)):=rfl
        clear ho hA hg
        (repeat' (first|contradiction|exact .ok|apply And.intro|intro _|(refine gc (fun h=>?_) (fun h=>?_)<;>(have h':=h;(try simp at h');first|done|simp[h,h']|simp))))
        all_goals first
         | (refine ⟨i+1,⟨hlt,hgood ?_⟩,sub_mk _ [] .nil ?_,?_⟩
            ·clear hbad hgood hb; first | (rw [hnb]; simp_all; done) | (rw [hnb]; simp_all; omega)
            ·simp; exact wrap_in (by omega) (by omega)
            ·simp; omega)
         | (apply hbad; clear hbad hgood hb; rw [hnb]; simp_all; done)
         | (apply hbad; clear hbad hgood hb; rw [hnb]; simp_all; omega)
       ·have hlt':¬ (i:Int)<t.length:=by omega
        have:A=true:=by
         rw [← hA,List.all_eq_true]
         intro x hx
         obtain ⟨j,hj,rfl⟩:=List.getElem_of_mem hx
         exact ho j hj (by omega)
        simp [hlt,hlt',this]
        exact ⟨.of (by kernel_rfl),.of (by kernel_rfl)⟩
    ·have h':lowr c=false:=by simpa using h
     simp [h,h',nameOk,headLow]
     all_goals exact gz
   ·have hn:nameOk words (c::s)=false:=by unfold nameOk; simp; intro h; omega
    rw [hn]
    have hl':(16:Int)<(s.length:Int)+1:=by omega
    simp [hl,hl']
    (repeat' (first|contradiction|exact .ok|apply And.intro|intro _|(refine gc (fun h=>?_) (fun h=>?_)<;>(have h':=h;(try simp at h');first|done|simp[h,h',hl']|simp[hl']))))
    all_goals simp_all
theorem r_reserved:Cf Es 110 [] [] (.d (.sl (words.map fun w=>[.str w]))) []:=by
 refine cf_intro mixs (fn:=Tryz.f110) (by kernel_rfl) rfl (by kernel_rfl) (by decide) (by simp) ?_
 simp [words]
 all_goals exact gz
theorem r_name (s:List UInt8):Cf Es 71 [.d (.str s)] [] (.d (.bool (nameOk words s))) []:=by
 refine cf_intro mixs (fn:=Tryz.f71) (by kernel_rfl) rfl (by kernel_rfl) (by decide) (by simp) ?_
 cases s with
 | nil =>
   simp [nameOk,headLow]
   all_goals exact gz
 | cons c s =>
   by_cases hl:s.length≤15
   ·have hl':¬ (16:Int)<(s.length:Int)+1:=by omega
    have hl3:¬ (s.length:Int)+1<1:=by omega
    have hN:nameOk words (c::s)=(lowr c&&((c::s).all nameB&&!words.contains (c::s))):=by
     unfold nameOk headLow
     simp
     omega
    rw [hN]
    generalize hA:(c::s).all nameB=A
    generalize hW:words.contains (c::s)=W
    generalize hR:(lowr c&&(A&&!W))=R
    by_cases hc:lowr c=true
    ·have h1:¬ (c.toNat:Int)<97:=by unfold lowr at hc; simp at hc; omega
     have h2:¬ (122:Int)<c.toNat:=by unfold lowr at hc; simp at hc; omega
     simp [hl,hl',hl3,h1,h2,hc]
     obtain ⟨t,ht⟩:∃ t,t=c::s:=⟨_,rfl⟩
     have htl:(s.length:Int)+1=t.length:=by rw [ht]; simp
     have htn:t.length≤16:=by rw [ht]; simp; omega
     rw [← ht] at hA hW ⊢
     refine ⟨.of (by kernel_rfl),.of (by kernel_rfl),.of (by kernel_rfl),?_⟩
     refine aloopT mixs (by decide) (fun i:Nat=>{ s:=mkS [(0,.d (.str t)),(3,.d (.int .i64 i))],b:=mkB [] }) (fun i:Nat=>i≤t.length∧∀ j (h:j<t.length),j<i→nameB t[j]=true) (fun i=>t.length - i) 0 (by simp) (sub_mk _ [] .nil (by simp)) ?_
     clear ht htl hl hl' hl3 h1 h2
     rintro i ⟨hi,ho⟩
     by_cases hlt:i<t.length
     ·have hlt':(i:Int)<t.length:=by omega
      have hg:t[i]?=some t[i]:=List.getElem?_eq_getElem hlt
      simp [hlt,hlt',hg]
      refine ⟨.of (by kernel_rfl),?_⟩
      have hbad:nameB t[i]=false→A=false:=fun h=>by
       rw [← hA]
       cases hx:t.all nameB with
       | false=>rfl
       | true=>rw [List.all_eq_true.1 hx _ (List.getElem_mem hlt)] at h; cases h
      have hgood:nameB t[i]=true→∀ j (h:j<t.length),j<i+1→nameB t[j]=true:=fun h j hj hji=>by
       rcases Nat.lt_or_ge j i with c | c
       ·exact ho j hj c
       ·have:j=i:=by omega
        subst this
        exact h
      generalize hb:t[i]=b at *
      have hgi:∀ h,t[i]'h=b:=fun _=>hb
      have hnb:nameB b=(decide (97≤b.toNat)&&decide (b.toNat≤122)||(decide (48≤b.toNat)&&decide (b.toNat≤57)||b.toNat==95)):=rfl
      clear ho hA
      (repeat' (first|contradiction|exact .ok|apply And.intro|intro _|(refine gc (fun h=>?_) (fun h=>?_)<;>(have h':=h;(try simp at h');first|done|simp[h,h',hg,hlt,hgi]|simp[hg,hlt,hgi]))))
      all_goals first
       | (refine ⟨i+1,⟨hlt,hgood ?_⟩,sub_mk _ [] .nil ?_,?_⟩
          ·clear hbad hgood hb hgi hR; first | (rw [hnb]; simp_all; done) | (rw [hnb]; simp_all; omega)
          ·simp; exact wrap_in (by omega) (by omega)
          ·simp; omega)
       | (rw [← hR,show A=false by (apply hbad; clear hbad hgood hb hgi hR; first | (rw [hnb]; simp_all; done) | (rw [hnb]; simp_all; omega))]; simp)
     ·have hlt':¬ (i:Int)<t.length:=by omega
      have:A=true:=by
       rw [← hA,List.all_eq_true]
       intro x hx
       obtain ⟨j,hj,rfl⟩:=List.getElem_of_mem hx
       exact ho j hj (by omega)
      subst this
      clear ho hA hi
      simp [hlt,hlt']
      refine ⟨.of (by kernel_rfl),?_⟩
      refine acallT_plain r_reserved (by simp) ?_
      simp
      (repeat refine ⟨.of (by kernel_rfl),?_⟩)
      refine aloopT mixs (by decide) (fun i:Nat=>{ s:=mkS [(0,.d (.str t)),(4,.d (.sl (words.map fun w=>[.str w]))),(5,.d (.int .i64 i))],b:=mkB [] }) (fun i:Nat=>i≤words.length∧(words.drop i).contains t=W) (fun i=>words.length - i) 0 (by simp [← hW]) (sub_mk _ [] .nil (by simp)) ?_
      clear hlt hlt' i
      rintro i ⟨hi,ho⟩
      by_cases hlt:i<words.length
      ·have hlt':(i:Int)<words.length:=by omega
       obtain ⟨v,hg⟩:∃ v,words[i]?=some v:=⟨_,List.getElem?_eq_getElem hlt⟩
       have hgi:∀ h,words[i]'h=v:=fun h=>(List.getElem?_eq_some_iff.1 hg).2
       have hd:words.drop i=v::words.drop (i+1):=by rw [List.drop_eq_getElem_cons hlt,hgi]
       rw [hd] at ho
       simp [hlt,hlt',hg,hgi]
       refine ⟨.of (by kernel_rfl),.of (by kernel_rfl),fun h=>⟨.of (by kernel_rfl),?_⟩,fun h=>⟨.of (by kernel_rfl),i+1,⟨hlt,?_⟩,sub_mk _ [] .nil ?_,?_⟩⟩
       ·subst h
        simp at ho
        rw [← hR,← ho]; simp
       ·rw [← ho]
        simp
        intro e
        exact absurd e.symm h
       ·simp
        have:words.length=52:=rfl
        exact wrap_in (by omega) (by omega)
       ·simp; omega
      ·have hlt':¬ (i:Int)<words.length:=by omega
       have hWf:W=false:=by
        rw [← ho,List.drop_eq_nil_of_le (by omega)]; rfl
       simp [hlt,hlt']
       refine ⟨.of (by kernel_rfl),.of (by kernel_rfl),?_⟩
       rw [← hR,hWf,hc]; rfl
    ·have hc':lowr c=false:=by simpa using hc
     have hRf:R=false:=by rw [← hR,hc']; rfl
     subst hRf
     clear hR
     unfold lowr at hc'
     simp [hl,hl',hl3]
     (repeat' (first|contradiction|exact .ok|apply And.intro|intro _|(refine gc (fun h=>?_) (fun h=>?_)<;>(have h':=h;(try simp at h');first|done|simp[h,h',hl3]|simp[hl3]))))
     all_goals first | (simp_all; done) | (simp_all; omega)
   ·have hn:nameOk words (c::s)=false:=by unfold nameOk; simp; intro h; omega
    rw [hn]
    have hl':(16:Int)<(s.length:Int)+1:=by omega
    have hl3:¬ (s.length:Int)+1<1:=by omega
    have hl4:(1:Int)≤(s.length:Int)+1:=by omega
    simp [hl,hl',hl3,hl4]
    (repeat' (first|contradiction|exact .ok|apply And.intro|intro _|(refine gc (fun h=>?_) (fun h=>?_)<;>(have h':=h;(try simp at h');first|done|simp[h,h',hl',hl3,hl4]|simp[hl',hl3,hl4]))))
    all_goals simp_all
end Go.Proofs.Tryz
