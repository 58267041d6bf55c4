import Derived.Test.YtgdkfmglkjfciaaGreatDoorPRqs
set_option linter.all false
namespace Go.Proofs.Tryz
open Go.Ab
set_option maxHeartbeats 1000000
theorem Sm.eq_heads (f:Int) (al d s:Bool) (is ft fq fn js w g h ks is' ft' fq' fn' js' w' g' h' ks') :
  (Sm.mk f al d s is ft fq fn js w g h ks).eq (.mk f al d s is' ft' fq' fn' js' w' g' h' ks')=(agree It.eq is is'&&(agree Jo.eq js js'&&(soEq ft fq fn ft' fq' fn'&&(agree Tm.eq w w'&&(agree Tm.eq g g'&&(agree Tm.eq h h'&&agree Sm.eq ks ks')))))):=by
 rw [Sm.eq,← soEq,josEq_agree,smsEq_agree ks ks']
 rw [Bool.eq_iff_iff]
 simp
 grind
theorem r_same:∀ (m:Nat) (x y:Sm),SizeOf.sizeOf x<m→x.fits→Cf En 8 [x.a,y.a] [] (.d (.bool (x.eq y))) []
 | 0,_,_,h,_=>absurd h (by omega)
 | m+1,x,y,hm,hfit=>by
   refine cf_intro mix (fn:=Tryz.f8) (by kernel_rfl) rfl (by kernel_rfl) (by decide) (by simp) ?_
   have hq:=fun (a:Sm) (ha:SizeOf.sizeOf a<m) (fa:a.fits) (b:Sm)=>r_same m a b ha fa
   obtain ⟨f,al,d,s,is,ft,fq,fn,js,w,g,h,ks⟩:=x
   obtain ⟨f',al',d',s',is',ft',fq',fn',js',w',g',h',ks'⟩:=y
   have hfq:∀ a∈fq,SizeOf.sizeOf a<m:=fun a ha=>by
    have:=Sm.q_lt (e:=.mk f al d s is ft fq fn js w g h ks) ha
    omega
   have hks:∀ a∈ks,SizeOf.sizeOf a<m:=fun a ha=>by
    have:=Sm.kid_lt (e:=.mk f al d s is ft fq fn js w g h ks) ha
    omega
   have hjs:∀ j∈js,∀ a∈j.qs,SizeOf.sizeOf a<m:=fun j hj a ha=>by
    have:=Sm.j_lt (e:=.mk f al d s is ft fq fn js w g h ks) hj
    have:=Jo.q_lt ha
    omega
   rw [Sm.fits] at hfit
   obtain ⟨⟨fi1,fi2⟩,⟨fq1,fq2⟩,⟨fj1,fj2⟩,⟨fw1,fw2⟩,⟨fg1,fg2⟩,⟨fh1,fh2⟩,fk1,fk2⟩:=hfit
   by_cases hA:f=f'∧al=al'∧d=d'∧s=s'∧is.length=is'.length∧js.length=js'.length
   ·obtain ⟨rfl,rfl,rfl,rfl,hli,hlj⟩:=hA
    have hli':(is.length:Int)=is'.length:=by omega
    have hlj':(js.length:Int)=js'.length:=by omega
    rw [Sm.eq_heads]
    generalize hR:(agree It.eq is is'&&(agree Jo.eq js js'&&(soEq ft fq fn ft' fq' fn'&&(agree Tm.eq w w'&&(agree Tm.eq g g'&&(agree Tm.eq h h'&&agree Sm.eq ks ks'))))))=R
    simp [Sm.a,Sm.c,hli',hlj',hli,hlj,josC_map,smsC_map]
    refine ⟨.of (by kernel_rfl),.of (by kernel_rfl),.of (by kernel_rfl),?_⟩
    refine aloopT mix (by decide) (fun i:Nat=>{ s:=mkS [(2,.ptr 2 0 0),(3,.ptr 3 0 0),(5,.d (.int .i64 i))],b:=mkB [(2,2,.var (Sm.a (.mk f al d s is ft fq fn js w g h ks)).cells),(3,3,.var (Sm.a (.mk f al d s is' ft' fq' fn' js' w' g' h' ks')).cells)] }) (fun i:Nat=>i≤is'.length∧agree It.eq (is.drop i) (is'.drop i)=agree It.eq is is') (fun i=>is'.length - i) 0 (by simp) (sub_mk _ _ ⟨by simp,by simp,by simp [renOf,Blk.live,Sm.a,Sm.c,josC_map,smsC_map],by simp⟩ (by simp [renOf])) ?_
    rintro i ⟨hi,ho⟩
    by_cases hlt:i<is'.length
    ·have hlt':(i:Int)<is'.length:=by omega
     obtain ⟨x,hg⟩:∃ x,is[i]?=some x:=⟨_,List.getElem?_eq_getElem (by omega)⟩
     obtain ⟨y,hg2⟩:∃ y,is'[i]?=some y:=⟨_,List.getElem?_eq_getElem hlt⟩
     have hd:=agree_drop (f:=It.eq) hg hg2
     have hqt:=r_sameTerm _ x.t y.t (Nat.lt_succ_self _) (itFits_get fi2 (List.mem_of_getElem? hg))
     have he:x.eq y=(x.n==y.n&&x.t.eq y.t):=rfl
     obtain ⟨⟨o0,y0,n0,t0,q0,ks0⟩,nm⟩:=x
     obtain ⟨⟨o1,y1,n1,t1,q1,ks1⟩,nm'⟩:=y
     simp only at he hqt
     have key:agree It.eq is is'=(nm==nm'&&(Tm.mk o0 y0 n0 t0 q0 ks0).eq (Tm.mk o1 y1 n1 t1 q1 ks1)&&agree It.eq (is.drop (i+1)) (is'.drop (i+1))):=by rw [← ho,hd,he]
     clear ho hd he
     have hgi:∀ h,is[i]'h=_:=fun h=>(List.getElem?_eq_some_iff.1 hg).2
     have hgi2:∀ h,is'[i]'h=_:=fun h=>(List.getElem?_eq_some_iff.1 hg2).2
     simp [Sm.a,Sm.c,hli',hlj',hli,hlj,josC_map,smsC_map,hlt,hlt',hg,hg2,hgi,hgi2,It.c,Tm.c,tmsC_map]
     refine ⟨.of (by kernel_rfl),?_⟩
     (repeat' (first|contradiction|exact .ok|apply And.intro|intro _|(refine gc (fun h=>?_) (fun h=>?_)<;>(have h':=h;(try simp at h');first|done|simp[h,h',hlt,hlt',hg,hg2,hgi,hgi2,It.c,Tm.c,tmsC_map]|simp[hlt,hlt',hg,hg2,hgi,hgi2,It.c,Tm.c,tmsC_map]))))
     all_goals first | (refine acallT_plain hqt (by simp [Tm.a,Tm.c,tmsC_map]) ?_; simp; (repeat' (first | contradiction | exact .of (by kernel_rfl) | refine And.intro ?_ ?_ | intro _ | (refine agrd_cases (fun h=>?_) (fun h=>?_) <;> (have h':=h; (try simp at h'); first | done | simp [h,h'] | simp))))) | skip
     all_goals first
      | (refine ⟨i+1,⟨hlt,?_⟩,sub_mk _ [(2,2,_),(3,3,_)] ⟨by simp,by simp,by simp [renOf,Blk.live,Sm.a,Sm.c,josC_map,smsC_map],by simp⟩ ?_,?_⟩
         ·rw [key]; clear hR key; simp_all
         ·simp [renOf]; exact wrap_in (by omega) (by omega)
         ·simp; omega)
      | (rw [← hR,key]; clear hR key; simp_all)
    ·have hlt':¬ (i:Int)<is'.length:=by omega
     rw [agree_end (by omega) (by omega)] at ho
     simp [Sm.a,Sm.c,hli',hlj',hli,hlj,josC_map,smsC_map,hlt,hlt']
     refine ⟨.of (by kernel_rfl),.of (by kernel_rfl),?_⟩
     refine aloopT mix (by decide) (fun i:Nat=>{ s:=mkS [(2,.ptr 2 0 0),(3,.ptr 3 0 0),(6,.d (.int .i64 i))],b:=mkB [(2,2,.var (Sm.a (.mk f al d s is ft fq fn js w g h ks)).cells),(3,3,.var (Sm.a (.mk f al d s is' ft' fq' fn' js' w' g' h' ks')).cells)] }) (fun i:Nat=>i≤js'.length∧agree Jo.eq (js.drop i) (js'.drop i)=agree Jo.eq js js') (fun i=>js'.length - i) 0 (by simp) (sub_mk _ [(2,2,_),(3,3,_)] ⟨by simp,by simp,by simp [renOf,Blk.live,Sm.a,Sm.c,josC_map,smsC_map],by simp⟩ (by simp [renOf])) ?_
     clear hi hlt hlt' i
     rintro i ⟨hi,hj⟩
     by_cases hlt:i<js'.length
     ·have hlt':(i:Int)<js'.length:=by omega
      obtain ⟨x,hg⟩:∃ x,js[i]?=some x:=⟨_,List.getElem?_eq_getElem (by omega)⟩
      obtain ⟨y,hg2⟩:∃ y,js'[i]?=some y:=⟨_,List.getElem?_eq_getElem hlt⟩
      have hd:=agree_drop (f:=Jo.eq) hg hg2
      have hx:=josFits_get _ fj2 x (List.mem_of_getElem? hg)
      have hxq:=hjs x (List.mem_of_getElem? hg)
      obtain ⟨k0,t0,q0,n0,o0⟩:=x
      obtain ⟨k1,t1,q1,n1,o1⟩:=y
      rw [Jo.fits] at hx
      have e1:=r_sameSource t0 q0 n0 t1 q1 n1 hx.1.1 fun a ha b _=>hq a (hxq a ha) (smsFits_get _ hx.1.2 a ha) b
      have e2:=r_sameTs o0 o1 hx.2.1 hx.2.2
      have key:agree Jo.eq js js'=(k0==k1&&(soEq t0 q0 n0 t1 q1 n1&&agree Tm.eq o0 o1)&&agree Jo.eq (js.drop (i+1)) (js'.drop (i+1))):=by rw [← hj,hd,Jo.eq,soEq]
      clear hj hd
      have hgi:∀ h,js[i]'h=_:=fun h=>(List.getElem?_eq_some_iff.1 hg).2
      have hgi2:∀ h,js'[i]'h=_:=fun h=>(List.getElem?_eq_some_iff.1 hg2).2
      simp [Sm.a,Sm.c,hli',hlj',hli,hlj,josC_map,smsC_map,hlt,hlt',hg,hg2,hgi,hgi2,Jo.c]
      refine ⟨.of (by kernel_rfl),?_⟩
      (repeat' (first|contradiction|exact .ok|apply And.intro|intro _|(refine gc (fun h=>?_) (fun h=>?_)<;>(have h':=h;(try simp at h');first|done|simp[h,h',hlt,hlt',hg,hg2,hgi,hgi2,Jo.c,josC_map,smsC_map]|simp[hlt,hlt',hg,hg2,hgi,hgi2,Jo.c,josC_map,smsC_map]))))
      all_goals first | (refine acallT_plain e1 (by simp [soA,soC,smsC_map]) ?_; simp [hlt,hlt',hg,hg2,hgi,hgi2,Jo.c,josC_map,smsC_map]; (repeat' (first | contradiction | exact .of (by kernel_rfl) | refine And.intro ?_ ?_ | intro _ | (refine agrd_cases (fun h=>?_) (fun h=>?_) <;> (have h':=h; (try simp at h'); first | done | simp [h,h',hlt,hlt',hg,hg2,hgi,hgi2,Jo.c,josC_map,smsC_map] | simp [hlt,hlt',hg,hg2,hgi,hgi2,Jo.c,josC_map,smsC_map]))))) | skip
      all_goals first | (refine acallT_plain e2 (by simp) ?_; simp [hlt,hlt',hg,hg2,hgi,hgi2,Jo.c,josC_map,smsC_map]; (repeat' (first | contradiction | exact .of (by kernel_rfl) | refine And.intro ?_ ?_ | intro _ | (refine agrd_cases (fun h=>?_) (fun h=>?_) <;> (have h':=h; (try simp at h'); first | done | simp [h,h',hlt,hlt',hg,hg2,hgi,hgi2,Jo.c,josC_map,smsC_map] | simp [hlt,hlt',hg,hg2,hgi,hgi2,Jo.c,josC_map,smsC_map]))))) | skip
      all_goals first
       | (refine ⟨i+1,⟨hlt,?_⟩,sub_mk _ [(2,2,_),(3,3,_)] ⟨by simp,by simp,by simp [renOf,Blk.live,Sm.a,Sm.c,josC_map,smsC_map],by simp⟩ ?_,?_⟩
          ·rw [key]; clear hR key; simp_all
          ·simp [renOf]; exact wrap_in (by omega) (by omega)
          ·simp; omega)
       | (rw [← hR,key]; clear hR key; simp_all)
     ·have hlt':¬ (i:Int)<js'.length:=by omega
      rw [agree_end (by omega) (by omega)] at hj
      have e1:=r_sameSource ft fq fn ft' fq' fn' fq1 fun a ha b _=>hq a (hfq a ha) (smsFits_get _ fq2 a ha) b
      have e4:=r_sameTs w w' fw1 fw2
      have e5:=r_sameTs g g' fg1 fg2
      have e6:=r_sameTs h h' fh1 fh2
      have e7:=r_sameStatements ks ks' fk1 fun a ha b _=>hq a (hks a ha) (smsFits_get _ fk2 a ha) b
      rw [← ho,← hj] at hR
      clear ho hj hlt
      simp [Sm.a,Sm.c,hli',hlj',hli,hlj,josC_map,smsC_map,hlt']
      refine ⟨.of (by kernel_rfl),?_⟩
      refine acallT_plain e1 (by simp [soA,soC,smsC_map]) ?_
      simp [josC_map,smsC_map]
      (repeat' (first|contradiction|exact .ok|apply And.intro|intro _|(refine gc (fun h=>?_) (fun h=>?_)<;>(have h':=h;(try simp at h');first|done|simp[h,h',josC_map,smsC_map]|simp[josC_map,smsC_map]))))
      all_goals first | (refine acallT_plain e4 (by simp) ?_; simp [josC_map,smsC_map]; (repeat' (first | contradiction | exact .of (by kernel_rfl) | refine And.intro ?_ ?_ | intro _ | (refine agrd_cases (fun h=>?_) (fun h=>?_) <;> (have h':=h; (try simp at h'); first | done | simp [h,h',josC_map,smsC_map] | simp [josC_map,smsC_map]))))) | skip
      all_goals first | (refine acallT_plain e5 (by simp) ?_; simp [josC_map,smsC_map]; (repeat' (first | contradiction | exact .of (by kernel_rfl) | refine And.intro ?_ ?_ | intro _ | (refine agrd_cases (fun h=>?_) (fun h=>?_) <;> (have h':=h; (try simp at h'); first | done | simp [h,h',josC_map,smsC_map] | simp [josC_map,smsC_map]))))) | skip
      all_goals first | (refine acallT_plain e6 (by simp) ?_; simp [josC_map,smsC_map]; (repeat' (first | contradiction | exact .of (by kernel_rfl) | refine And.intro ?_ ?_ | intro _ | (refine agrd_cases (fun h=>?_) (fun h=>?_) <;> (have h':=h; (try simp at h'); first | done | simp [h,h',josC_map,smsC_map] | simp [josC_map,smsC_map]))))) | skip
      all_goals first | (refine acallT_plain e7 (by simp) ?_; simp [josC_map,smsC_map]; (repeat' (first | contradiction | exact .of (by kernel_rfl) | refine And.intro ?_ ?_ | intro _ | (refine agrd_cases (fun h=>?_) (fun h=>?_) <;> (have h':=h; (try simp at h'); first | done | simp [h,h',josC_map,smsC_map] | simp [josC_map,smsC_map]))))) | skip
      all_goals (rw [← hR]; clear hR; simp_all)
   ·have hF:(Sm.mk f al d s is ft fq fn js w g h ks).eq (.mk f' al' d' s' is' ft' fq' fn' js' w' g' h' ks')=false:=by
     cases hE:(Sm.mk f al d s is ft fq fn js w g h ks).eq (.mk f' al' d' s' is' ft' fq' fn' js' w' g' h' ks') with
     | false=>rfl
     | true =>
       rw [Sm.eq,josEq_agree] at hE
       simp only [Bool.and_eq_true,beq_iff_eq] at hE
       refine absurd ⟨hE.1,hE.2.1,hE.2.2.1,hE.2.2.2.1,?_,?_⟩ hA
       ·exact Classical.byContradiction fun hc=>by rw [agree_len _ _ hc] at hE; simp at hE
       ·exact Classical.byContradiction fun hc=>by rw [agree_len js js' hc] at hE; simp at hE
    rw [hF]
    clear hF hq hfq hks hjs
    simp [Sm.a,Sm.c,josC_map,smsC_map]
    (repeat' (first|contradiction|exact .ok|apply And.intro|intro _|(refine gc (fun h=>?_) (fun h=>?_)<;>(have h':=h;(try simp at h');first|done|simp[h,h',josC_map,smsC_map]|simp[josC_map,smsC_map]))))
    all_goals (exfalso; apply hA; simp_all; omega)
end Go.Proofs.Tryz
