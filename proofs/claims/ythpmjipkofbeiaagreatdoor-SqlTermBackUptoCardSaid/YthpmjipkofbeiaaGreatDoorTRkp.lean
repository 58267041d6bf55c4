import Derived.Test.YthpmjipkofbeiaaGreatDoorTFdx
import Derived.Test.YthpmjipkofbeiaaGreatDoorTTxt
import Derived.Test.YthpmjipkofbeiaaGreatDoorAbB
import Derived.Test.YthpmjipkofbeiaaGreatDoorPre
import Derived.Test.YthpmjipkofbeiaaGreatDoorLif
set_option linter.all false
namespace Go.Proofs.Tryz
open Go.Ab
set_option maxRecDepth 100000
set_option maxHeartbeats 1000000
theorem s_letter (c:UInt8):Cf Es 124 [.d (.int .u8 c.toNat)] [] (.d (.bool (lowr c))) []:=by
 refine cf_intro mixs (fn:=Tryz.f124) (by kernel_rfl) rfl (by kernel_rfl) (by decide) (by simp) ?_
 unfold lowr
 simp
 (repeat' (first|contradiction|exact .ok|apply And.intro|intro _|(refine gc (fun h=>?_) (fun h=>?_)<;>(have h':=h;(try simp at h');first|done|simp[h,h']|simp))))
 all_goals (first | (rw [Bool.eq_iff_iff]; simp; omega) | (simp; omega) | (simp_all; omega))
theorem words_plain:words.all plainW=true:=by decide
theorem nameOk_eq {c:UInt8} {s:List UInt8} (hl:s.length≤15) (hc:lowr c=true) :
  nameOk words (c::s)=(!within (32::(c::(s++[32]))) (spaced words)&&(c::s).all nameB):=by
 have h:=fun hp=>within_spaced (c::s) hp words words_plain
 rw [List.cons_append] at h
 unfold nameOk headLow
 cases ha:(c::s).all nameB with
 | false=>simp
 | true =>
   rw [h (plain_of_name ha)]
   simp [hc]
   omega
theorem s_name (s:List UInt8):Cf Es 84 [.d (.str s)] [] (.d (.bool (nameOk words s))) []:=by
 refine cf_intro mixs (fn:=Tryz.f84) (by kernel_rfl) rfl (by kernel_rfl) (by decide) (by simp) ?_
 cases s with
 | nil =>
   simp [nameOk,headLow]
   all_goals exact gz
 | cons c s =>
   by_cases hl:s.length≤15
   ·have hl':¬ (16:Int)<(s.length:Int)+1:=by omega
    have hl3:¬ (16:Int)<(s.length:Int):=by omega
    simp [hl,hl']
    refine ⟨.of (by kernel_rfl),?_⟩
    refine acallT_plain (s_letter c) (by simp) ?_
    simp [hl,hl']
    refine agrd_cases (fun h=>?_) (fun h=>?_)
    ·have h':lowr c=true:=by simpa using h
     have b1:1+(s.length+1)≤9223372036854775807:=by omega
     have b2:s.length+1+1≤9223372036854775807:=by omega
     have b3:s.length+1+1+1≤9223372036854775807:=by omega
     have b4:1+(s.length+1)+1≤9223372036854775807:=by omega
     simp [h,h',b1,b2,b3,b4]
     refine acallT_plain (c_contains (spaced words) (32::((c::s)++[32])) (by decide)) (by simp [spaced,words]) ?_
     rw [nameOk_eq hl h']
     generalize hW:within (32::(c::(s++[32]))) (spaced words)=W
     generalize hA:(c::s).all nameB=A
     cases W with
     | true =>
       simp [h,h',hW]
       all_goals exact gz
     | false =>
       simp [h,h',hW]
       obtain ⟨t,ht⟩:∃ t,t=c::s:=⟨_,rfl⟩
       have htl:(s.length:Int)+1=t.length:=by rw [ht]; simp
       have htn:t.length≤16:=by rw [ht]; simp; omega
       rw [← ht] at hA ⊢
       rw [htl]
       refine ⟨.of (by kernel_rfl),.of (by kernel_rfl),?_⟩
       refine aloopT mixs (by decide) (fun i:Nat=>{ s:=mkS [(0,.d (.str t)),(25,.d (.int .i64 t.length)),(26,.d (.int .i64 i))],b:=mkB [] }) (fun i:Nat=>i≤t.length∧∀ j (h:j<t.length),j<i→nameB t[j]=true) (fun i=>t.length - i) 0 (by simp) (sub_mk _ [] .nil (by simp)) ?_
       clear ht htl hl hl' hl3 h h' hW b1 b2 b3 b4
       rintro i ⟨hi,ho⟩
       by_cases hlt:i<t.length
       ·have hlt':(i:Int)<t.length:=by omega
        have hg:t[i]?=some t[i]:=List.getElem?_eq_getElem hlt
        simp [hlt,hlt',hg]
        refine ⟨.of (by kernel_rfl),.of (by kernel_rfl),.of (by kernel_rfl),?_⟩
        refine acallT_plain (s_letter t[i]) (by simp) ?_
        simp
        have hbad:nameB t[i]=false→A=false:=fun h=>by
         rw [← hA]
         cases hx:t.all nameB with
         | false=>rfl
         | true=>rw [List.all_eq_true.1 hx _ (List.getElem_mem hlt)] at h; cases h
        have hgood:nameB t[i]=true→∀ j (h:j<t.length),j<i+1→nameB t[j]=true:=fun h j hj hji=>by
         rcases Nat.lt_or_ge j i with c | c
         ·exact ho j hj c
         ·have:j=i:=by omega
          subst this
          exact h
        generalize hb:t[i]=b at *
        have hnb:nameB b=(lowr b||(decide (48≤b.toNat)&&decide (b.toNat≤57)||b.toNat==95)):=rfl
        clear ho hA hg
        (repeat' (first|contradiction|exact .ok|apply And.intro|intro _|(refine gc (fun h=>?_) (fun h=>?_)<;>(have h':=h;(try simp at h');first|done|simp[h,h']|simp))))
        all_goals first
         | (refine ⟨i+1,⟨hlt,hgood ?_⟩,sub_mk _ [] .nil ?_,?_⟩
            ·clear hbad hgood hb; first | (rw [hnb]; simp_all; done) | (rw [hnb]; simp_all; omega)
            ·simp; exact wrap_in (by omega) (by omega)
            ·simp; omega)
         | (apply hbad; clear hbad hgood hb; rw [hnb]; simp_all; done)
         | (apply hbad; clear hbad hgood hb; rw [hnb]; simp_all; omega)
       ·have hlt':¬ (i:Int)<t.length:=by omega
        have:A=true:=by
         rw [← hA,List.all_eq_true]
         intro x hx
         obtain ⟨j,hj,rfl⟩:=List.getElem_of_mem hx
         exact ho j hj (by omega)
        simp [hlt,hlt',this]
        exact ⟨.of (by kernel_rfl),.of (by kernel_rfl)⟩
    ·have h':lowr c=false:=by simpa using h
     simp [h,h',nameOk,headLow]
     all_goals exact gz
   ·have hn:nameOk words (c::s)=false:=by unfold nameOk; simp; intro h; omega
    rw [hn]
    have hl':(16:Int)<(s.length:Int)+1:=by omega
    simp [hl,hl']
    (repeat' (first|contradiction|exact .ok|apply And.intro|intro _|(refine gc (fun h=>?_) (fun h=>?_)<;>(have h':=h;(try simp at h');first|done|simp[h,h',hl']|simp[hl']))))
    all_goals simp_all
theorem r_reserved:Cf Es 110 [] [] (.d (.sl (words.map fun w=>[.str w]))) []:=by
 refine cf_intro mixs (fn:=Tryz.f110) (by kernel_rfl) rfl (by kernel_rfl) (by decide) (by simp) ?_
 simp [words]
 all_goals exact gz
theorem r_name (s:List UInt8):Cf Es 71 [.d (.str s)] [] (.d (.bool (nameOk words s))) []:=by
 refine cf_intro mixs (fn:=Tryz.f71) (by kernel_rfl) rfl (by kernel_rfl) (by decide) (by simp) ?_
 cases s with
 | nil =>
   simp [nameOk,headLow]
   all_goals exact gz
 | cons c s =>
   by_cases hl:s.length≤15
   ·have hl':¬ (16:Int)<(s.length:Int)+1:=by omega
    have hl3:¬ (s.length:Int)+1<1:=by omega
    have hN:nameOk words (c::s)=(lowr c&&((c::s).all nameB&&!words.contains (c::s))):=by
     unfold nameOk headLow
     simp
     omega
    rw [hN]
    generalize hA:(c::s).all nameB=A
    generalize hW:words.contains (c::s)=W
    generalize hR:(lowr c&&(A&&!W))=R
    by_cases hc:lowr c=true
    ·have h1:¬ (c.toNat:Int)<97:=by unfold lowr at hc; simp at hc; omega
     have h2:¬ (122:Int)<c.toNat:=by unfold lowr at hc; simp at hc; omega
     simp [hl,hl',hl3,h1,h2,hc]
     obtain ⟨t,ht⟩:∃ t,t=c::s:=⟨_,rfl⟩
     have htl:(s.length:Int)+1=t.length:=by rw [ht]; simp
     have htn:t.length≤16:=by rw [ht]; simp; omega
     rw [← ht] at hA hW ⊢
     refine ⟨.of (by kernel_rfl),.of (by kernel_rfl),.of (by kernel_rfl),?_⟩
     refine aloopT mixs (by decide) (fun i:Nat=>{ s:=mkS [(0,.d (.str t)),(3,.d (.int .i64 i))],b:=mkB [] }) (fun i:Nat=>i≤t.length∧∀ j (h:j<t.length),j<i→nameB t[j]=true) (fun i=>t.length - i) 0 (by simp) (sub_mk _ [] .nil (by simp)) ?_
     clear ht htl hl hl' hl3 h1 h2
     rintro i ⟨hi,ho⟩
     by_cases hlt:i<t.length
     ·have hlt':(i:Int)<t.length:=by omega
      have hg:t[i]?=some t[i]:=List.getElem?_eq_getElem hlt
      simp [hlt,hlt',hg]
      refine ⟨.of (by kernel_rfl),?_⟩
      have hbad:nameB t[i]=false→A=false:=fun h=>by
       rw [← hA]
       cases hx:t.all nameB with
       | false=>rfl
       | true=>rw [List.all_eq_true.1 hx _ (List.getElem_mem hlt)] at h; cases h
      have hgood:nameB t[i]=true→∀ j (h:j<t.length),j<i+1→nameB t[j]=true:=fun h j hj hji=>by
       rcases Nat.lt_or_ge j i with c | c
       ·exact ho j hj c
       ·have:j=i:=by omega
        subst this
        exact h
      generalize hb:t[i]=b at *
      have hgi:∀ h,t[i]'h=b:=fun _=>hb
      have hnb:nameB b=(decide (97≤b.toNat)&&decide (b.toNat≤122)||(decide (48≤b.toNat)&&decide (b.toNat≤57)||b.toNat==95)):=rfl
      clear ho hA
      (repeat' (first|contradiction|exact .ok|apply And.intro|intro _|(refine gc (fun h=>?_) (fun h=>?_)<;>(have h':=h;(try simp at h');first|done|simp[h,h',hg,hlt,hgi]|simp[hg,hlt,hgi]))))
      all_goals first
       | (refine ⟨i+1,⟨hlt,hgood ?_⟩,sub_mk _ [] .nil ?_,?_⟩
          ·clear hbad hgood hb hgi hR; first | (rw [hnb]; simp_all; done) | (rw [hnb]; simp_all; omega)
          ·simp; exact wrap_in (by omega) (by omega)
          ·simp; omega)
       | (rw [← hR,show A=false by (apply hbad; clear hbad hgood hb hgi hR; first | (rw [hnb]; simp_all; done) | (rw [hnb]; simp_all; omega))]; simp)
     ·have hlt':¬ (i:Int)<t.length:=by omega
      have:A=true:=by
       rw [← hA,List.all_eq_true]
       intro x hx
       obtain ⟨j,hj,rfl⟩:=List.getElem_of_mem hx
       exact ho j hj (by omega)
      subst this
      clear ho hA hi
      simp [hlt,hlt']
      refine ⟨.of (by kernel_rfl),?_⟩
      refine acallT_plain r_reserved (by simp) ?_
      simp
      (repeat refine ⟨.of (by kernel_rfl),?_⟩)
      refine aloopT mixs (by decide) (fun i:Nat=>{ s:=mkS [(0,.d (.str t)),(4,.d (.sl (words.map fun w=>[.str w]))),(5,.d (.int .i64 i))],b:=mkB [] }) (fun i:Nat=>i≤words.length∧(words.drop i).contains t=W) (fun i=>words.length - i) 0 (by simp [← hW]) (sub_mk _ [] .nil (by simp)) ?_
      clear hlt hlt' i
      rintro i ⟨hi,ho⟩
      by_cases hlt:i<words.length
      ·have hlt':(i:Int)<words.length:=by omega
       obtain ⟨v,hg⟩:∃ v,words[i]?=some v:=⟨_,List.getElem?_eq_getElem hlt⟩
       have hgi:∀ h,words[i]'h=v:=fun h=>(List.getElem?_eq_some_iff.1 hg).2
       have hd:words.drop i=v::words.drop (i+1):=by rw [List.drop_eq_getElem_cons hlt,hgi]
       rw [hd] at ho
       simp [hlt,hlt',hg,hgi]
       refine ⟨.of (by kernel_rfl),.of (by kernel_rfl),fun h=>⟨.of (by kernel_rfl),?_⟩,fun h=>⟨.of (by kernel_rfl),i+1,⟨hlt,?_⟩,sub_mk _ [] .nil ?_,?_⟩⟩
       ·subst h
        simp at ho
        rw [← hR,← ho]; simp
       ·rw [← ho]
        simp
        intro e
        exact absurd e.symm h
       ·simp
        have:words.length=52:=rfl
        exact wrap_in (by omega) (by omega)
       ·simp; omega
      ·have hlt':¬ (i:Int)<words.length:=by omega
       have hWf:W=false:=by
        rw [← ho,List.drop_eq_nil_of_le (by omega)]; rfl
       simp [hlt,hlt']
       refine ⟨.of (by kernel_rfl),.of (by kernel_rfl),?_⟩
       rw [← hR,hWf,hc]; rfl
    ·have hc':lowr c=false:=by simpa using hc
     have hRf:R=false:=by rw [← hR,hc']; rfl
     subst hRf
     clear hR
     unfold lowr at hc'
     simp [hl,hl',hl3]
     (repeat' (first|contradiction|exact .ok|apply And.intro|intro _|(refine gc (fun h=>?_) (fun h=>?_)<;>(have h':=h;(try simp at h');first|done|simp[h,h',hl3]|simp[hl3]))))
     all_goals first | (simp_all; done) | (simp_all; omega)
   ·have hn:nameOk words (c::s)=false:=by unfold nameOk; simp; intro h; omega
    rw [hn]
    have hl':(16:Int)<(s.length:Int)+1:=by omega
    have hl3:¬ (s.length:Int)+1<1:=by omega
    have hl4:(1:Int)≤(s.length:Int)+1:=by omega
    simp [hl,hl',hl3,hl4]
    (repeat' (first|contradiction|exact .ok|apply And.intro|intro _|(refine gc (fun h=>?_) (fun h=>?_)<;>(have h':=h;(try simp at h');first|done|simp[h,h',hl',hl3,hl4]|simp[hl',hl3,hl4]))))
    all_goals simp_all
theorem s_sameTerm:∀ (m:Nat) (x y:Tm),SizeOf.sizeOf x<m→x.fits→Cf En 85 [x.a,y.a] [] (.d (.bool (x.eq y))) []
 | 0,_,_,h,_=>absurd h (by omega)
 | m+1,.mk o y n t q ks,.mk o' y' n' t' q' ks',hm,hfit=>by
   refine cf_intro mix (fn:=Tryz.f85) (by kernel_rfl) rfl (by kernel_rfl) (by decide) (by simp) ?_
   rw [Tm.fits] at hfit
   have hq:=equal_T 85 ks ks' hfit.1 fun x hx z _=>s_sameTerm m x z (by
    have:=Tm.kid_lt (e:=.mk o y n t q ks) (k:=x) hx
    omega) (tmsFits_get ks hfit.2 x hx)
   rw [Tm.eq,tmsEq_agree]
   simp [Tm.a,Tm.c,tmsC_map]
   (repeat' (first|contradiction|exact .ok|apply And.intro|intro _|(refine gc (fun h=>?_) (fun h=>?_)<;>(have h':=h;(try simp at h');first|done|simp[h,h']|simp))))
   all_goals first | (refine acallT_plain hq (by simp) ?_; simp; (repeat' (first | contradiction | exact .of (by kernel_rfl) | refine And.intro ?_ ?_ | intro _ | (refine agrd_cases (fun h=>?_) (fun h=>?_) <;> (have h':=h; (try simp at h'); first | done | simp [h,h'] | simp))))) | skip
   all_goals simp_all
theorem most_step {l:List Int} {i:Nat} {x:Int} (h:l[i]?=some x):(if most (l.take i)<x then x else most (l.take i))=most (l.take (i+1)):=by
 rw [most_take h]
 split <;> omega
theorem most_all {l:List Int} {i:Nat} (h:l.length≤i):most (l.take i)=most l:=by rw [List.take_of_length_le h]
theorem s_termDepth:∀ (m:Nat) (x:Tm),SizeOf.sizeOf x<m→x.fits→Cf En 32 [x.a] [] (.d (.int .i64 x.dep)) []
 | 0,_,h,_=>absurd h (by omega)
 | m+1,.mk o y n t q ks,hm,hfit=>by
   refine cf_intro mix (fn:=Tryz.f32) (by kernel_rfl) rfl (by kernel_rfl) (by decide) (by simp) ?_
   rw [Tm.fits] at hfit
   have hq:=fun (x:Tm) (hx:x∈ks)=>s_termDepth m x (by
    have:=Tm.kid_lt (e:=.mk o y n t q ks) (k:=x) hx
    omega) (tmsFits_get ks hfit.2 x hx)
   have hl:=hfit.1
   rw [Tm.dep,tmsDep_most]
   simp [Tm.a,Tm.c,tmsC_map]
   refine ⟨.of (by kernel_rfl),.of (by kernel_rfl),.of (by kernel_rfl),?_⟩
   refine aloopT mix (by decide) (fun i:Nat=>{ s:=mkS [(1,.ptr 1 0 0),(3,.d (.int .i64 (most ((ks.map Tm.dep).take i)))),(7,.d (.sl (ks.map Tm.c))),(8,.d (.int .i64 ks.length)),(9,.d (.int .i64 i))],b:=mkB [(1,1,.var (Tm.a (.mk o y n t q ks)).cells)] }) (fun i:Nat=>i≤ks.length) (fun i=>ks.length - i) 0 (by simp) (sub_mk _ _ ⟨by simp,by simp,by simp [renOf,Blk.live,Tm.a,Tm.c,tmsC_map],by simp⟩ (by simp [renOf,most])) ?_
   rintro i hi
   by_cases hlt:i<ks.length
   ·have hlt':(i:Int)<ks.length:=by omega
    have hg:ks[i]?=some ks[i]:=List.getElem?_eq_getElem hlt
    have hk:=most_step (l:=ks.map Tm.dep) (i:=i) (x:=ks[i].dep) (by rw [List.getElem?_map,hg]; rfl)
    have c1:=Tm.clen ks[i]
    have k1:=Tm.ctake ks[i]
    simp [Tm.a,Tm.c,tmsC_map,hlt,hlt',hg,c1,k1]
    refine ⟨.of (by kernel_rfl),.of (by kernel_rfl),?_⟩
    refine acallT_plain (hq ks[i] (List.getElem_mem hlt)) (by simp [Tm.a]) ?_
    simp
    refine ⟨.of (by kernel_rfl),.of (by kernel_rfl),i+1,hlt,?_,?_⟩
    ·refine sub_mk _ [(1,1,_)] ⟨by simp,by simp,by simp [renOf,Blk.live,Tm.a,Tm.c,tmsC_map],by simp⟩ ?_
     simp [renOf]
     exact ⟨hk,wrap_in (by omega) (by omega)⟩
    ·simp; omega
   ·have hlt':¬ (i:Int)<ks.length:=by omega
    have hall:=most_all (l:=ks.map Tm.dep) (i:=i) (by simp; omega)
    simp [Tm.a,Tm.c,tmsC_map,hlt,hlt',up1,hall]
    exact ⟨.of (by kernel_rfl),.of (by kernel_rfl)⟩
theorem r_termDepth:∀ (m:Nat) (x:Tm),SizeOf.sizeOf x<m→x.fits→Cf En 25 [x.a] [] (.d (.int .i64 x.dep)) []
 | 0,_,h,_=>absurd h (by omega)
 | m+1,.mk o y n t q ks,hm,hfit=>by
   refine cf_intro mix (fn:=Tryz.f25) (by kernel_rfl) rfl (by kernel_rfl) (by decide) (by simp) ?_
   rw [Tm.fits] at hfit
   have hq:=fun (x:Tm) (hx:x∈ks)=>r_termDepth m x (by
    have:=Tm.kid_lt (e:=.mk o y n t q ks) (k:=x) hx
    omega) (tmsFits_get ks hfit.2 x hx)
   have hl:=hfit.1
   rw [Tm.dep,tmsDep_most]
   simp [Tm.a,Tm.c,tmsC_map]
   refine ⟨.of (by kernel_rfl),.of (by kernel_rfl),.of (by kernel_rfl),?_⟩
   refine aloopT mix (by decide) (fun i:Nat=>{ s:=mkS [(1,.ptr 1 0 0),(3,.d (.int .i64 (most ((ks.map Tm.dep).take i)))),(4,.d (.int .i64 i))],b:=mkB [(1,1,.var (Tm.a (.mk o y n t q ks)).cells)] }) (fun i:Nat=>i≤ks.length) (fun i=>ks.length - i) 0 (by simp) (sub_mk _ _ ⟨by simp,by simp,by simp [renOf,Blk.live,Tm.a,Tm.c,tmsC_map],by simp⟩ (by simp [renOf,most])) ?_
   rintro i hi
   by_cases hlt:i<ks.length
   ·have hlt':(i:Int)<ks.length:=by omega
    have hg:ks[i]?=some ks[i]:=List.getElem?_eq_getElem hlt
    have hk:=most_step (l:=ks.map Tm.dep) (i:=i) (x:=ks[i].dep) (by rw [List.getElem?_map,hg]; rfl)
    have c1:=Tm.clen ks[i]
    have k1:=Tm.ctake ks[i]
    simp [Tm.a,Tm.c,tmsC_map,hlt,hlt',hg,c1,k1]
    refine ⟨.of (by kernel_rfl),?_⟩
    refine acallT_plain (hq ks[i] (List.getElem_mem hlt)) (by simp [Tm.a]) ?_
    simp
    refine ⟨.of (by kernel_rfl),.of (by kernel_rfl),i+1,hlt,?_,?_⟩
    ·refine sub_mk _ [(1,1,_)] ⟨by simp,by simp,by simp [renOf,Blk.live,Tm.a,Tm.c,tmsC_map],by simp⟩ ?_
     simp [renOf]
     exact ⟨hk,wrap_in (by omega) (by omega)⟩
    ·simp; omega
   ·have hlt':¬ (i:Int)<ks.length:=by omega
    have hall:=most_all (l:=ks.map Tm.dep) (i:=i) (by simp; omega)
    simp [Tm.a,Tm.c,tmsC_map,hlt,hlt',up1,hall]
    exact ⟨.of (by kernel_rfl),.of (by kernel_rfl)⟩
def tapB (L:List Int) (i:Int):Blk:=.var [.d (.sl (L.map fun n=>[.int .i64 n])),.d (.int .i64 i)]
def nextV (L:List Int) (i:Nat) (n:Int):Int :=
 if n<1 then 0 else
  let x:=match L[i]? with
   | some z=>z.tmod n
   | none=>0
  if x<0 then x+n else x
def nextI (i:Nat) (n:Int):Nat:=if n<1 then i else i+1
theorem nextV_in (L:List Int) (i:Nat) {n:Int} (h:1≤n):0≤nextV L i n∧nextV L i n<n:=by
 unfold nextV
 rw [if_neg (by omega)]
 cases L[i]? with
 | none=>simp; omega
 | some z =>
   have h1:=Int.natAbs_tmod z n
   have h2:=Nat.mod_lt z.natAbs (show 0<n.natAbs by omega)
   simp only
   split <;> omega
theorem t_next (L:List Int) (i:Nat) (hi:i≤1000000000) (n:Int) (hn:n≤1000000) :
  Cf En 20 [.ptr 1000000 0 0,.d (.int .i64 n)] [tapB L i] (.d (.int .i64 (nextV L i n))) [tapB L (nextI i n)]:=by
 refine cf_intro mix (fn:=Tryz.f20) (by kernel_rfl) rfl (by kernel_rfl) (by decide) (by simp) ?_
 simp [tapB]
 (repeat' (first|contradiction|exact .ok|apply And.intro|intro _|(refine gc (fun h=>?_) (fun h=>?_)<;>(have h':=h;(try simp at h');first|done|simp[h,h']|simp))))
 ·rename_i h
  simp [nextI,h]
 ·rename_i h
  simp [nextV,h]
 ·rename_i h1 h2
  have hg:L[i]?=some L[i]:=List.getElem?_eq_getElem h2
  have hn0:¬ n<1:=by omega
  have hz:¬ n=0:=by omega
  have hw:=wrap_in (n:=(i:Int)+1) (by omega) (by omega)
  have e1:=Int.natAbs_tmod L[i] n
  have e2:=Nat.mod_lt L[i].natAbs (show 0<n.natAbs by omega)
  have hw2:=wrap_in (n:=L[i].tmod n+n) (by omega) (by omega)
  have hV:nextV L i n=if L[i].tmod n<0 then L[i].tmod n+n else L[i].tmod n:=by simp [nextV,hn0,hg]
  have hI:nextI i n=i+1:=by simp [nextI,hn0]
  rw [hV,hI]
  clear hV hI
  by_cases hneg:L[i].tmod n<0
  ·simp [hg,hz,hneg,hw,hw2]
   all_goals exact gz
  ·simp [hg,hz,hneg,hw]
   all_goals exact gz
 ·rename_i h1 h2
  simp [nextI,show ¬ n<1 by omega]
  exact wrap_in (by omega) (by omega)
 ·rename_i h1 h2
  simp [nextV,show ¬ n<1 by omega,List.getElem?_eq_none h2]
def Kp (st st':RS):Prop:=st'.1 <:+ st.1∧(okE st.1→okE st'.1)
theorem Kp.refl (st:RS):Kp st st:=⟨List.suffix_refl _,id⟩
theorem Kp.trans {a b c:RS} (h:Kp a b) (h':Kp b c):Kp a c:=⟨h'.1.trans h.1,fun e=>h'.2 (h.2 e)⟩
theorem okE.tlE {l:List Tk} (h:okE l) (he:(hdT l).ends=false):okE l.tail:=by
 cases l with
 | nil=>exact absurd rfl h.ne
 | cons t r=>exact h.cons he
theorem kp_next {st:RS} (he:(hdT st.1).ends=false):Kp st (rNext st):=by
 unfold rNext
 split
 ·exact ⟨tail_sfx _,fun h=>h.tlE he⟩
 ·exact .refl st
theorem kp_fail (st:RS):Kp st (rFail st):=by
 unfold rFail
 split <;> exact .refl _
theorem isW_end {w:List UInt8} {l:List Tk} (h:isW w l=true):(hdT l).ends=false:=by
 cases l with
 | nil=>cases h
 | cons t r =>
   simp only [isW,Bool.and_eq_true,Bool.or_eq_true,beq_iff_eq] at h
   exact ends_kd (by simp only [hdT]; omega) (by simp only [hdT]; omega)
theorem rIs_W {w:List UInt8} {st:RS} (h:rIs w st=true):st.2<0∧isW w st.1=true:=by
 unfold rIs at h
 simpa using h
theorem kp_is {w:List UInt8} {st:RS} (h:rIs w st=true):Kp st (rNext st):=kp_next (isW_end (rIs_W h).2)
theorem kp_want (w:List UInt8) (st:RS):Kp st (rWant w st):=by
 unfold rWant
 split
 ·rename_i h; exact kp_is h
 ·exact kp_fail st
theorem rOne_W {ws:List (List UInt8)} {st:RS} {i:Nat} (h:rOne ws st=some i):st.2<0∧oneOf ws st.1=some i:=by
 unfold rOne at h
 split at h
 ·rename_i hb; exact ⟨hb,h⟩
 ·cases h
theorem kp_one {ws:List (List UInt8)} {st:RS} {i:Nat} (h:rOne ws st=some i):Kp st (rNext st):=by
 obtain ⟨w,hw⟩:=one_w (rOne_W h).2
 exact kp_next (isW_end hw)
theorem rNamed_kd {st:RS} (h:rNamed st=true):st.2<0∧(hdT st.1).kd=1:=by
 unfold rNamed at h
 simp only [Bool.and_eq_true,decide_eq_true_eq,beq_iff_eq] at h
 exact ⟨h.1,h.2.1⟩
theorem kp_name (st:RS):Kp st (rName st).2:=by
 unfold rName
 split
 ·rename_i h
  have:=(rNamed_kd h).2
  exact kp_next (ends_kd (by omega) (by omega))
 ·exact kp_fail st
theorem kp_chain {q:RS→Tm×RS} (hq:∀ st,Kp st (q st).2) (sg:List (List UInt8)) (ops:List Int):∀ (k:Nat) (out:Tm) (st:RS),Kp st (chainR q sg ops k out st).2
 | 0,out,st=>.refl st
 | k+1,out,st=>by
   rw [chainR]
   split
   ·exact .refl st
   ·rename_i h
    exact (kp_one h).trans ((hq _).trans (kp_chain hq sg ops k _ _))
theorem kp_more {q:RS→Tm×RS} (hq:∀ st,Kp st (q st).2):∀ (k:Nat) (ks:List Tm) (st:RS),Kp st (moreR q k ks st).2
 | 0,ks,st=>.refl st
 | k+1,ks,st=>by
   rw [moreR]
   split
   ·rename_i h
    exact (kp_is h).trans ((hq _).trans (kp_more hq k _ _))
   ·exact .refl st
theorem kp_agg {q:RS→Tm×RS} (hq:∀ st,Kp st (q st).2) (st:RS):Kp st (aggR q st).2:=by
 unfold aggR
 split
 ·exact kp_fail st
 ·rename_i h
  have h1:=(kp_one h).trans (kp_want wOpen _)
  simp only
  split
  ·rename_i h2; exact h1.trans ((kp_is h2.2).trans (kp_want _ _))
  ·split
   ·rename_i h2; exact h1.trans ((kp_is h2.2).trans ((hq _).trans (kp_want _ _)))
   ·exact h1.trans ((hq _).trans (kp_want _ _))
theorem kp_null (st:RS):Kp st (nullR st).2:=by
 unfold nullR
 split
 ·rename_i h; exact kp_one h
 ·exact kp_fail st
theorem kp_case {q:RS→Tm×RS} (hq:∀ st,Kp st (q st).2) (st:RS):Kp st (caseR q st).2 :=
 (kp_want _ _).trans ((hq _).trans ((kp_want _ _).trans ((hq _).trans ((kp_want _ _).trans ((hq _).trans (kp_want _ _))))))
theorem kp_par:∀ (n lvl:Nat) (st:RS),Kp st (parR n lvl st).2
 | 0,lvl,st=>kp_fail st
 | n+1,0,st=>by rw [parR]; exact (kp_par n 1 st).trans (kp_chain (kp_par n 1) _ _ _ _ _)
 | n+1,1,st=>by rw [parR]; exact (kp_par n 2 st).trans (kp_chain (kp_par n 2) _ _ _ _ _)
 | n+1,2,st=>by
   rw [parR]
   split
   ·rename_i h; exact (kp_is h).trans (kp_par n 2 _)
   ·exact kp_par n 3 st
 | n+1,3,st=>by
   rw [parR]
   have h1:=kp_par n 4 st
   simp only
   split
   ·rename_i h; exact h1.trans ((kp_one h).trans (kp_par n 4 _))
   ·split
    ·rename_i h; exact h1.trans ((kp_is h).trans ((kp_want _ _).trans ((kp_par n 0 _).trans ((kp_more (kp_par n 0) _ _ _).trans (kp_want _ _)))))
    ·split
     ·rename_i h
      have h2:=h1.trans (kp_is h)
      split
      ·rename_i h3; exact h2.trans (kp_is h3)
      ·split
       ·rename_i h3; exact h2.trans (kp_is h3)
       ·split
        ·rename_i h3; exact h2.trans ((kp_is h3).trans (kp_want _ _))
        ·exact h2.trans (kp_fail _)
     ·exact h1
 | n+1,4,st=>by rw [parR]; exact (kp_par n 5 st).trans (kp_chain (kp_par n 5) _ _ _ _ _)
 | n+1,5,st=>by rw [parR]; exact (kp_par n 6 st).trans (kp_chain (kp_par n 6) _ _ _ _ _)
 | n+1,6,st=>by
   rw [parR]
   split
   ·rename_i h
    simp only
    split
    ·rename_i h2; exact (kp_is h).trans (kp_next (ends_kd (by omega) (by omega)))
    ·exact (kp_is h).trans (kp_par n 6 _)
   ·exact kp_par n 7 st
 | n+1,m+7,st=>by
   rw [parR]
   by_cases h:0≤st.2
   ·rw [if_pos h]; exact .refl st
   rw [if_neg h]
   by_cases h:(hdT st.1).kd=2
   ·rw [if_pos h]; exact kp_next (ends_kd (by omega) (by omega))
   rw [if_neg h]
   by_cases h:(hdT st.1).kd=3
   ·rw [if_pos h]; exact kp_next (ends_kd (by omega) (by omega))
   rw [if_neg h]
   by_cases h:rNamed st=true
   ·rw [if_pos h]
    by_cases h:rIs wDot (rName st).2=true
    ·simp only [h,if_true]; exact (kp_name st).trans ((kp_is h).trans (kp_name _))
    ·simp only [h,if_false]; exact kp_name st
   rw [if_neg h]
   by_cases h:rIs wOpen st=true
   ·rw [if_pos h]; exact (kp_is h).trans ((kp_par n 0 _).trans (kp_want _ _))
   rw [if_neg h]
   by_cases h:rIs wTrue st=true
   ·rw [if_pos h]; exact kp_is h
   rw [if_neg h]
   by_cases h:rIs wFalse st=true
   ·rw [if_pos h]; exact kp_is h
   rw [if_neg h]
   by_cases h:rIs wNull st=true
   ·rw [if_pos h]; exact (kp_is h).trans (kp_null _)
   rw [if_neg h]
   by_cases h:rIs wLength st=true
   ·rw [if_pos h]; exact (kp_is h).trans ((kp_want _ _).trans ((kp_par n 0 _).trans (kp_want _ _)))
   rw [if_neg h]
   by_cases h:rIs wCoalesce st=true
   ·rw [if_pos h]; exact (kp_is h).trans ((kp_want _ _).trans ((kp_par n 0 _).trans ((kp_want _ _).trans ((kp_par n 0 _).trans (kp_want _ _)))))
   rw [if_neg h]
   by_cases h:rIs wCase st=true
   ·rw [if_pos h]; exact (kp_is h).trans (kp_case (kp_par n 0) _)
   rw [if_neg h]
   exact kp_agg (kp_par n 0) st
end Go.Proofs.Tryz
