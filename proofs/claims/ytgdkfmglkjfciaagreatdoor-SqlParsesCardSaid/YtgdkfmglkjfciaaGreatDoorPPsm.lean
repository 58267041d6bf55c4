import Derived.Test.YtgdkfmglkjfciaaGreatDoorPRdp
import Derived.Test.YtgdkfmglkjfciaaGreatDoorPPta
import Derived.Test.YtgdkfmglkjfciaaGreatDoorStw
import Derived.Test.YtgdkfmglkjfciaaGreatDoorFst
set_option linter.all false
namespace Go.Proofs.Tryz
open Go.Ab
set_option maxHeartbeats 4000000
set_option maxRecDepth 100000
def Jo.on:Jo→List Tm | .mk _ _ _ _ o=>o
abbrev S3:=List UInt8×List Sm×List UInt8
def Jo.so:Jo→S3 | .mk _ t q n _=>(t,q,n)
def S3.c (s:S3):List D:=soC s.1 s.2.1 s.2.2
theorem S3.clen (s:S3):(S3.c s).length=3:=rfl
def S3.dep (s:S3):Int:=smsDep s.2.1
theorem josDep_split:∀ js:List Jo,josDep js=max (most ((js.map Jo.so).map S3.dep)) (tmsDep (js.flatMap Jo.on))
 | []=>by rw [josDep]; rfl
 | .mk k t q n o::js=>by
   rw [josDep,josDep_split js,Jo.dep,List.flatMap_cons,tmsDep_most (_++_),List.map_append,most_append,← tmsDep_most,← tmsDep_most]
   simp only [List.map_cons,most,Jo.so,S3.dep,Jo.on]
   omega
theorem dep_all (ks:List Sm) (t:List UInt8) (fq:List Sm) (n:List UInt8) (js:List Jo) (w g h:List Tm) (is:List It) :
  max (max (smsDep ks) (tmsDep (w++g++h++is.map It.t++js.flatMap Jo.on))) (most (((t,fq,n)::js.map Jo.so).map S3.dep)) =
   max (smsDep ks) (max (smsDep fq) (max (tmsDep w) (max (tmsDep g) (max (tmsDep h) (max (itsDep is) (josDep js)))))):=by
 rw [josDep_split,itsDep,tmsDep_most (w++g++h++is.map It.t++js.flatMap Jo.on)]
 simp only [List.map_append,most_append,List.map_cons,most]
 rw [← tmsDep_most w,← tmsDep_most g,← tmsDep_most h,tmsDep_most (is.map It.t),tmsDep_most (js.flatMap Jo.on),S3.dep]
 simp only
 generalize smsDep ks=a
 generalize smsDep fq=b
 generalize tmsDep w=c
 generalize tmsDep g=d
 generalize tmsDep h=e
 generalize most ((is.map It.t).map Tm.dep)=f
 generalize most ((js.flatMap Jo.on).map Tm.dep)=g'
 generalize most ((js.map Jo.so).map S3.dep)=h'
 simp only [Int.max_def]
 grind
theorem s_depth:∀ (m:Nat) (x:Sm),SizeOf.sizeOf x<m→x.fits→x.small→Cf En 14 [x.a] [] (.d (.int .i64 x.dep)) []
 | 0,_,h,_,_=>absurd h (by omega)
 | m+1,x,hm,hfit,hsm=>by
   refine cf_intro mix (fn:=Tryz.f14) (by kernel_rfl) rfl (by kernel_rfl) (by decide) (by simp) ?_
   have hq:=fun (a:Sm) (ha:SizeOf.sizeOf a<m) (fa:a.fits) (sa:a.small)=>s_depth m a ha fa sa
   obtain ⟨f,al,d,s,is,ft,fq,fn,js,w,g,h,ks⟩:=x
   have hfq:∀ a∈fq,SizeOf.sizeOf a<m:=fun a ha=>by
    have:=Sm.q_lt (e:=.mk f al d s is ft fq fn js w g h ks) ha
    omega
   have hks:∀ a∈ks,SizeOf.sizeOf a<m:=fun a ha=>by
    have:=Sm.kid_lt (e:=.mk f al d s is ft fq fn js w g h ks) ha
    omega
   have hjs:∀ j∈js,∀ a∈j.qs,SizeOf.sizeOf a<m:=fun j hj a ha=>by
    have:=Sm.j_lt (e:=.mk f al d s is ft fq fn js w g h ks) hj
    have:=Jo.q_lt ha
    omega
   rw [Sm.fits] at hfit
   obtain ⟨⟨fi1,fi2⟩,⟨fq1,fq2⟩,⟨fj1,fj2⟩,⟨fw1,fw2⟩,⟨fg1,fg2⟩,⟨fh1,fh2⟩,fk1,fk2⟩:=hfit
   rw [Sm.small] at hsm
   obtain ⟨si,sj,sw,sg,sh,sq,sj2,sk⟩:=hsm
   rw [Sm.dep,← dep_all ks ft fq fn js w g h is]
   have hkids:=fun (a:Sm) (ha:a∈ks)=>hq a (hks a ha) (smsFits_get _ fk2 a ha) (smsSmall_get _ sk a ha)
   simp [Sm.a,Sm.c,smsC_map,josC_map]
   refine ⟨.of (by kernel_rfl),.of (by kernel_rfl),.of (by kernel_rfl),?_⟩
   refine aloopT mix (by decide) (fun i:Nat=>{ s:=mkS [(1,.ptr 1 0 0),(3,.d (.int .i64 (most ((ks.map Sm.dep).take i)))),(19,.d (.sl (ks.map Sm.c))),(20,.d (.int .i64 ks.length)),(21,.d (.int .i64 i))],b:=mkB [(1,1,.var (Sm.a (.mk f al d s is ft fq fn js w g h ks)).cells)] }) (fun i:Nat=>i≤ks.length) (fun i=>ks.length - i) 0 (by simp) (sub_mk _ _ ⟨by simp,by simp,by simp [renOf,Blk.live,Sm.a,Sm.c,smsC_map,josC_map],by simp⟩ (by simp [renOf,most])) ?_
   rintro i hi
   by_cases hlt:i<ks.length
   ·have hlt':(i:Int)<ks.length:=by omega
    have hg:ks[i]?=some ks[i]:=List.getElem?_eq_getElem hlt
    have hk:=most_step (l:=ks.map Sm.dep) (i:=i) (x:=ks[i].dep) (by rw [List.getElem?_map,hg]; rfl)
    have c1:=Sm.clen ks[i]
    have k1:=Sm.ctake ks[i]
    simp [Sm.a,Sm.c,smsC_map,josC_map,hlt,hlt',hg,c1,k1]
    refine ⟨.of (by kernel_rfl),.of (by kernel_rfl),?_⟩
    refine acallT_plain (hkids ks[i] (List.getElem_mem hlt)) (by simp [Sm.a]) ?_
    simp
    refine ⟨.of (by kernel_rfl),.of (by kernel_rfl),i+1,hlt,?_,?_⟩
    ·refine sub_mk _ [(1,1,_)] ⟨by simp,by simp,by simp [renOf,Blk.live,Sm.a,Sm.c,smsC_map,josC_map],by simp⟩ ?_
     simp [renOf]
     exact ⟨hk,wrap_in (by omega) (by omega)⟩
    ·simp; omega
   ·have hlt':¬ (i:Int)<ks.length:=by omega
    have hall:=most_all (l:=ks.map Sm.dep) (i:=i) (by simp; omega)
    have hcon:=s_concat w g h (by omega) (by omega) (by omega)
    obtain ⟨A,hA⟩:∃ A,A=w++g++h:=⟨_,rfl⟩
    have hAl:A.length≤30000:=by rw [hA]; simp; omega
    have hA2:w.length+g.length+h.length=A.length:=by rw [hA]; simp [Nat.add_assoc]
    rw [hA2,← hA] at hcon
    have hAf:tmsFits A:=by rw [hA]; exact tmsFits_app _ _ (tmsFits_app _ _ fw2 fg2) fh2
    simp [Sm.a,Sm.c,smsC_map,josC_map,hlt,hlt',hall]
    refine ⟨.of (by kernel_rfl),?_⟩
    refine acallT_new [] hcon (by simp) (by simp) (by simp) (by decide) (by simp) (by simp) (by simp) ?_
    simp [smsC_map,josC_map]
    refine ⟨.of (by kernel_rfl),.of (by kernel_rfl),.of (by kernel_rfl),?_⟩
    obtain ⟨K,hK⟩:∃ K,K=smsDep ks:=⟨_,rfl⟩
    rw [← smsDep_most,← hK]
    obtain ⟨TI,hTI⟩:∃ TI:Nat→List Tm,TI=fun i=>A++(is.take i).map It.t:=⟨_,rfl⟩
    have hTIl:∀ i,(TI i).length≤40000:=fun i=>by rw [hTI]; simp; omega
    refine aloopT mix (by decide) (fun i:Nat=>{ s:=mkS [(1,.ptr 1 0 0),(3,.d (.int .i64 K)),(6,.ref 6 0 (TI i).length 6),(7,.ref 7 0 1 3),(42,.d (.sl (is.map It.c))),(43,.d (.int .i64 is.length)),(44,.d (.int .i64 i))],b:=mkB [(1,1,.var (Sm.a (.mk f al d s is ft fq fn js w g h ks)).cells),(6,6,.arr 57 6 ((TI i).map Tm.c) false),(7,7,.arr 28 3 [S3.c (ft,fq,fn)] false)] }) (fun i:Nat=>i≤is.length) (fun i=>is.length - i) 0 (by simp) (sub_mk _ [(1,1,_),(6,38000,_),(7,40,_)] ⟨by simp,by simp,by simp [renOf,Blk.live,Sm.a,Sm.c,smsC_map,josC_map,hTI,S3.c,soC],by simp⟩ (by simp [renOf,hTI])) ?_
    clear hi hlt hlt' hall i
    rintro i hi
    by_cases hlt:i<is.length
    ·have hlt':(i:Int)<is.length:=by omega
     obtain ⟨x,hg⟩:∃ x,is[i]?=some x:=⟨_,List.getElem?_eq_getElem hlt⟩
     have hgi:∀ h,is[i]'h=_:=fun h=>(List.getElem?_eq_some_iff.1 hg).2
     have hnext:TI (i+1)=TI i++[x.t]:=by
      rw [hTI]
      simp only [List.take_add_one,hg,Option.toList_some,List.map_append,List.map_cons,List.map_nil,List.append_assoc]
     obtain ⟨⟨o0,y0,n0,t0,q0,ks0⟩,nm⟩:=x
     have b1:((TI i).length+1)*80≤140737488355328:=by have:=hTIl i; omega
     have b2:(TI i).length+1≤9223372036854775807:=by have:=hTIl i; omega
     simp [Sm.a,Sm.c,smsC_map,josC_map,hlt,hlt',hg,hgi,It.c,Tm.c,tmsC_map,b1,b2]
     refine ⟨.of (by kernel_rfl),.of (by kernel_rfl),.of (by kernel_rfl),.of (by kernel_rfl),i+1,hlt,?_,by simp; omega⟩
     refine sub_mk _ [(1,1,_),(6,52,_),(7,7,_)] ⟨by simp,by simp,by simp [renOf,Blk.live,Sm.a,Sm.c,smsC_map,josC_map,hnext,S3.c,soC,Tm.c,tmsC_map],by simp⟩ ?_
     simp [renOf,hnext]
     exact wrap_in (by omega) (by omega)
    ·have hlt':¬ (i:Int)<is.length:=by omega
     have hend:TI i=A++is.map It.t:=by rw [hTI]; simp only; rw [List.take_of_length_le (by omega)]
     obtain ⟨B,hB⟩:∃ B,B=A++is.map It.t:=⟨_,rfl⟩
     rw [← hB] at hend
     have hBl:B.length≤40000:=by rw [hB]; simp; omega
     have hBf:tmsFits B:=by rw [hB]; exact tmsFits_app _ _ hAf fi2
     simp [Sm.a,Sm.c,smsC_map,josC_map,hlt,hlt',hend]
     refine ⟨.of (by kernel_rfl),.of (by kernel_rfl),?_⟩
     obtain ⟨TJ,hTJ⟩:∃ TJ:Nat→List Tm,TJ=fun i=>B++(js.take i).flatMap Jo.on:=⟨_,rfl⟩
     obtain ⟨SJ,hSJ⟩:∃ SJ:Nat→List S3,SJ=fun i=>(ft,fq,fn)::(js.take i).map Jo.so:=⟨_,rfl⟩
     have hon:∀ l:List Jo,(∀ j∈l,j.on.length≤10000)→(l.flatMap Jo.on).length≤10000*l.length:=fun l=>by
      induction l with
      | nil=>intro _; simp
      | cons j l ih =>
        intro hj
        have h1:=hj j List.mem_cons_self
        have h2:=ih fun x hx=>hj x (List.mem_cons_of_mem _ hx)
        rw [List.flatMap_cons,List.length_append,List.length_cons]
        omega
     have honj:∀ j∈js,j.on.length≤10000:=fun j hj=>by
      have:=josSmall_get _ sj2 j hj
      obtain ⟨k,t,q,n,o⟩:=j
      rw [Jo.small] at this
      exact this.1
     have hTJl:∀ i,(TJ i).length≤100040000:=fun i=>by
      rw [hTJ]
      have:=hon (js.take i) fun j hj=>honj j (List.mem_of_mem_take hj)
      rw [List.length_append]
      have hl:(js.take i).length≤10000:=by rw [List.length_take]; omega
      omega
     have hSJl:∀ i,(SJ i).length≤10001:=fun i=>by
      rw [hSJ]
      simp
      omega
     refine aloopT mix (by decide) (fun i:Nat=>{ s:=mkS [(1,.ptr 1 0 0),(3,.d (.int .i64 K)),(6,.ref 6 0 (TJ i).length 6),(7,.ref 7 0 (SJ i).length 3),(55,.d (.sl (js.map Jo.c))),(56,.d (.int .i64 js.length)),(57,.d (.int .i64 i))],b:=mkB [(1,1,.var (Sm.a (.mk f al d s is ft fq fn js w g h ks)).cells),(6,6,.arr 57 6 ((TJ i).map Tm.c) false),(7,7,.arr 28 3 ((SJ i).map S3.c) false)] }) (fun i:Nat=>i≤js.length) (fun i=>js.length - i) 0 (by simp) (sub_mk _ [(1,1,_),(6,6,_),(7,7,_)] ⟨by simp,by simp,by simp [renOf,Blk.live,Sm.a,Sm.c,smsC_map,josC_map,hTJ,hSJ,hend,S3.c,soC],by simp⟩ (by simp [renOf,hTJ,hSJ])) ?_
     clear hi hlt hlt' hend i
     rintro i hi
     by_cases hlt:i<js.length
     ·have hlt':(i:Int)<js.length:=by omega
      obtain ⟨x,hg⟩:∃ x,js[i]?=some x:=⟨_,List.getElem?_eq_getElem hlt⟩
      have hgi:∀ h,js[i]'h=_:=fun h=>(List.getElem?_eq_some_iff.1 hg).2
      have hnext:TJ (i+1)=TJ i++x.on:=by
       rw [hTJ]
       simp only [List.take_add_one,hg,Option.toList_some,List.flatMap_append,List.flatMap_cons,List.flatMap_nil,List.append_nil,List.append_assoc]
      have hnext2:SJ (i+1)=SJ i++[x.so]:=by
       rw [hSJ]
       simp only [List.take_add_one,hg,Option.toList_some,List.map_append,List.map_cons,List.map_nil,List.cons_append]
      have hol:=honj x (List.mem_of_getElem? hg)
      obtain ⟨k0,t0,q0,n0,o0⟩:=x
      simp only [Jo.on,Jo.so] at hnext hnext2 hol
      have b1:((TJ i).length+o0.length)*80≤140737488355328:=by have:=hTJl i; omega
      have b2:(TJ i).length+o0.length≤9223372036854775807:=by have:=hTJl i; omega
      have b3:((SJ i).length+1)*56≤140737488355328:=by have:=hSJl i; omega
      have b4:(SJ i).length+1≤9223372036854775807:=by have:=hSJl i; omega
      simp [Sm.a,Sm.c,smsC_map,josC_map,hlt,hlt',hg,hgi,Jo.c,b1,b2,b3,b4,Tm.clen]
      refine ⟨.of (by kernel_rfl),.of (by kernel_rfl),.of (by kernel_rfl),.of (by kernel_rfl),i+1,hlt,?_,by simp; omega⟩
      refine sub_mk _ [(1,1,_),(6,64,_),(7,69,_)] ⟨by simp,by simp,by simp [renOf,Blk.live,Sm.a,Sm.c,smsC_map,josC_map,hnext,hnext2,S3.c,soC],by simp⟩ ?_
      simp [renOf,hnext,hnext2]
      exact wrap_in (by omega) (by omega)
     ·have hlt':¬ (i:Int)<js.length:=by omega
      have hend:TJ i=B++js.flatMap Jo.on:=by rw [hTJ]; simp only; rw [List.take_of_length_le (by omega)]
      have hend2:SJ i=(ft,fq,fn)::js.map Jo.so:=by rw [hSJ]; simp only; rw [List.take_of_length_le (by omega)]
      have hTl:=hTJl i
      have hSl:=hSJl i
      rw [hend] at hTl
      rw [hend2] at hSl
      have hjf:∀ l:List Jo,josFits l→tmsFits (l.flatMap Jo.on):=fun l=>by
       induction l with
       | nil=>intro _; rw [List.flatMap_nil,tmsFits]; trivial
       | cons j l ih =>
         intro hj
         rw [josFits] at hj
         rw [List.flatMap_cons]
         obtain ⟨k,t,q,n,o⟩:=j
         have h1:=hj.1
         rw [Jo.fits] at h1
         exact tmsFits_app _ _ h1.2.2 (ih hj.2)
      have hTf:tmsFits (B++js.flatMap Jo.on):=tmsFits_app _ _ hBf (hjf js fj2)
      have hSq:∀ u∈(ft,fq,fn)::js.map Jo.so,u.2.1.length≤9223372036854775807∧∀ a∈u.2.1,Cf En 14 [a.a] [] (.d (.int .i64 a.dep)) []:=fun u hu=>by
       rcases List.mem_cons.1 hu with rfl | hu
       ·exact ⟨fq1,fun a ha=>hq a (hfq a ha) (smsFits_get _ fq2 a ha) (smsSmall_get _ sq a ha)⟩
       ·obtain ⟨j,hj,rfl⟩:=List.mem_map.1 hu
        have h1:=josFits_get _ fj2 j hj
        have h2:=josSmall_get _ sj2 j hj
        have h3:=hjs j hj
        obtain ⟨k,t,q,n,o⟩:=j
        rw [Jo.fits] at h1
        rw [Jo.small] at h2
        exact ⟨h1.1.1,fun a ha=>hq a (h3 a ha) (smsFits_get _ h1.1.2 a ha) (smsSmall_get _ h2.2 a ha)⟩
      have hres:w++g++h++is.map It.t++js.flatMap Jo.on=B++js.flatMap Jo.on:=by rw [hB,hA]
      rw [hres]
      obtain ⟨T,hT⟩:∃ T,T=B++js.flatMap Jo.on:=⟨_,rfl⟩
      obtain ⟨S,hS⟩:∃ S,S=(ft,fq,fn)::js.map Jo.so:=⟨_,rfl⟩
      rw [← hT] at hend hTl hTf ⊢
      rw [← hS] at hend2 hSl hSq ⊢
      have hK0:0≤K:=by rw [hK,smsDep_most]; exact most_nonneg _
      clear hon honj hTJl hSJl hjf hres hB hBl hBf hA hAl hAf hA2 hcon hkids hq hfq hks hjs
      simp [Sm.a,Sm.c,smsC_map,josC_map,hlt,hlt',hend,hend2]
      refine ⟨.of (by kernel_rfl),.of (by kernel_rfl),?_⟩
      refine aloopT mix (by decide) (fun i:Nat=>{ s:=mkS [(3,.d (.int .i64 (max K (most ((T.map Tm.dep).take i))))),(7,.ref 7 0 S.length 3),(71,.ref 71 0 T.length 6),(72,.d (.int .i64 T.length)),(73,.d (.int .i64 i))],b:=mkB [(7,7,.arr 28 3 (S.map S3.c) false),(71,71,.arr 57 6 (T.map Tm.c) false)] }) (fun i:Nat=>i≤T.length) (fun i=>T.length - i) 0 (by simp) (sub_mk _ [(7,7,_),(71,6,_)] ⟨by simp,by simp,by simp [renOf,Blk.live],by simp⟩ (by simp [renOf,most]; omega)) ?_
      clear hi hlt hlt' hend hend2 i
      rintro i hi
      by_cases hlt:i<T.length
      ·have hlt':(i:Int)<T.length:=by omega
       obtain ⟨x,hg⟩:∃ x,T[i]?=some x:=⟨_,List.getElem?_eq_getElem hlt⟩
       have hgi:∀ h,T[i]'h=_:=fun h=>(List.getElem?_eq_some_iff.1 hg).2
       have hk:=most_take (l:=T.map Tm.dep) (i:=i) (x:=x.dep) (by rw [List.getElem?_map,hg]; rfl)
       have hcall:=s_termDepth _ x (Nat.lt_succ_self _) (tmsFits_get _ hTf x (List.mem_of_getElem? hg))
       have c1:=x.clen
       have k1:=x.ctake
       simp [hlt,hlt',hg,hgi,c1,k1]
       refine ⟨.of (by kernel_rfl),.of (by kernel_rfl),?_⟩
       refine acallT_plain hcall (by simp [Tm.a]) ?_
       simp [mxi]
       refine ⟨.of (by kernel_rfl),.of (by kernel_rfl),i+1,hlt,?_,by simp; omega⟩
       refine sub_mk _ [(7,7,_),(71,71,_)] ⟨by simp,by simp,by simp [renOf,Blk.live],by simp⟩ ?_
       simp [renOf]
       refine ⟨?_,wrap_in (by omega) (by omega)⟩
       try simp at hk
       rw [hk]
       try omega
      ·have hlt':¬ (i:Int)<T.length:=by omega
       have hall:=most_all (l:=T.map Tm.dep) (i:=i) (by simp; omega)
       obtain ⟨N,hN⟩:∃ N,N=max K (tmsDep T):=⟨_,rfl⟩
       have hall':max K (most ((T.map Tm.dep).take i))=N:=by rw [hall,hN,tmsDep_most]
       rw [← hN]
       have hN0:0≤N:=by omega
       simp [hlt,hlt',hall']
       refine ⟨.of (by kernel_rfl),.of (by kernel_rfl),?_⟩
       refine aloopT mix (by decide) (fun i:Nat=>{ s:=mkS [(3,.d (.int .i64 (max N (most ((S.map S3.dep).take i))))),(82,.ref 82 0 S.length 3),(83,.d (.int .i64 S.length)),(84,.d (.int .i64 i))],b:=mkB [(82,82,.arr 28 3 (S.map S3.c) false)] }) (fun i:Nat=>i≤S.length) (fun i=>S.length - i) 0 (by simp) (sub_mk _ [(82,7,_)] ⟨by simp,by simp,by simp [renOf,Blk.live],by simp⟩ (by simp [renOf,most]; omega)) ?_
       clear hi hlt hlt' hall hall' i
       rintro i hi
       by_cases hlt:i<S.length
       ·have hlt':(i:Int)<S.length:=by omega
        obtain ⟨x,hg⟩:∃ x,S[i]?=some x:=⟨_,List.getElem?_eq_getElem hlt⟩
        have hgi:∀ h,S[i]'h=_:=fun h=>(List.getElem?_eq_some_iff.1 hg).2
        have hk:=most_take (l:=S.map S3.dep) (i:=i) (x:=S3.dep x) (by rw [List.getElem?_map,hg]; rfl)
        have hcall:=hSq x (List.mem_of_getElem? hg)
        obtain ⟨t0,q0,n0⟩:=x
        simp only [S3.dep] at hk
        obtain ⟨M,hM⟩:∃ M,M=max N (most ((S.map S3.dep).take i)):=⟨_,rfl⟩
        have hM0:0≤M:=by omega
        rw [← hM]
        simp [hlt,hlt',hg,hgi,S3.c,soC]
        refine ⟨.of (by kernel_rfl),.of (by kernel_rfl),.of (by kernel_rfl),?_⟩
        refine aloopT mix (by decide) (fun j:Nat=>{ s:=mkS [(3,.d (.int .i64 (max M (most ((q0.map Sm.dep).take j))))),(82,.ref 82 0 S.length 3),(83,.d (.int .i64 S.length)),(84,.d (.int .i64 i)),(89,.d (.sl (q0.map Sm.c))),(90,.d (.int .i64 q0.length)),(91,.d (.int .i64 j))],b:=mkB [(82,82,.arr 28 3 (S.map S3.c) false)] }) (fun j:Nat=>j≤q0.length) (fun j=>q0.length - j) 0 (by simp) (sub_mk _ [(82,82,_)] ⟨by simp,by simp,by simp [renOf,Blk.live],by simp⟩ (by simp [renOf,most,smsC_map]; omega)) ?_
        rintro j hj
        by_cases hjl:j<q0.length
        ·have hjl':(j:Int)<q0.length:=by omega
         obtain ⟨y,hy⟩:∃ y,q0[j]?=some y:=⟨_,List.getElem?_eq_getElem hjl⟩
         have hyi:∀ h,q0[j]'h=_:=fun h=>(List.getElem?_eq_some_iff.1 hy).2
         have hk2:=most_take (l:=q0.map Sm.dep) (i:=j) (x:=y.dep) (by rw [List.getElem?_map,hy]; rfl)
         have hc2:=hcall.2 y (List.mem_of_getElem? hy)
         have hql:=hcall.1
         simp only at hql
         have c1:=y.clen
         have k1:=y.ctake
         simp [hjl,hjl',hy,hyi,c1,k1]
         refine ⟨.of (by kernel_rfl),.of (by kernel_rfl),?_⟩
         refine acallT_plain hc2 (by simp [Sm.a]) ?_
         simp [mxi]
         refine ⟨.of (by kernel_rfl),.of (by kernel_rfl),j+1,hjl,?_,by simp; omega⟩
         refine sub_mk _ [(82,82,_)] ⟨by simp,by simp,by simp [renOf,Blk.live],by simp⟩ ?_
         simp [renOf]
         refine ⟨?_,wrap_in (by omega) (by omega)⟩
         try simp at hk2
         rw [hk2]
         try omega
        ·have hjl':¬ (j:Int)<q0.length:=by omega
         have hall:=most_all (l:=q0.map Sm.dep) (i:=j) (by simp; omega)
         simp [hjl,hjl',hall]
         refine ⟨.of (by kernel_rfl),.of (by kernel_rfl),i+1,hlt,?_,by simp; omega⟩
         refine sub_mk _ [(82,82,_)] ⟨by simp,by simp,by simp [renOf,Blk.live],by simp⟩ ?_
         simp [renOf]
         refine ⟨?_,wrap_in (by omega) (by omega)⟩
         try simp at hk
         rw [hk,smsDep_most,hM]
         omega
       ·have hlt':¬ (i:Int)<S.length:=by omega
        have hall:=most_all (l:=S.map S3.dep) (i:=i) (by simp; omega)
        simp [hlt,hlt',hall,up1]
        exact ⟨.of (by kernel_rfl),.of (by kernel_rfl)⟩
def psR (s:List UInt8):Sm×Int×Int :=
 if s.length≤4000 then (match full (stmtP fuelN 6000) s with
  | .error p=>(zeS,(p:Int),2)
  | .ok x=>if x.dep≤24 then (x,0,0) else (zeS,0,13)) else (zeS,0,8)
theorem p_ruleS {s:List UInt8} (hs:s.length≤4000) :
  CfO Es 12 [.ptr 1000000 0 0,.ptr 1000001 0 0] [rdB (toks s) (toks s),.var zSm] (match stmtP fuelN 6000 (toks s) with
   | .error p=>.pan (flD p)
   | .ok (x,m)=>.ret (.tup []) [rdB (toks s) m,.var (x.c.map AV.d)]):=by
 have hlen:=toks_len s
 have ha:At (toks s) (toks s):=⟨List.suffix_refl _,toks_okE s⟩
 have h:=p_stmt p_fail (toks_v (s:=s) (by omega)) (by omega) (N:=fuelN) (by unfold fuelN; omega) 6000 (toks s) ha (by omega)
 generalize ho:(match stmtP fuelN 6000 (toks s) with
   | .error p=>Out.pan (flD p)
   | .ok (x,m)=>.ret (.tup []) [rdB (toks s) m,.var (x.c.map AV.d)])=o
 refine cfO_intro mixs (fn:=Tryz.f12) (by kernel_rfl) rfl (by kernel_rfl) (by decide) o (by simp) (by simp [rdB]) ?_
 cases hp:stmtP fuelN 6000 (toks s) with
 | error e =>
   rw [hp] at h ho
   subst ho
   simp<;>(repeat' first|contradiction|exact .ok|apply And.intro|intro _|(refine gc (fun h=>?_) (fun h=>?_)<;>(have h':=h;(try simp at h');first|done|simp[h,h']|simp)))
   exact acallP_pan [1000000] (h) (by simp) (by simp) (by simp) (by simp) (by kernel_rfl)
 | ok x =>
   obtain ⟨x,m⟩:=x
   rw [hp] at h ho
   subst ho
   simp only [outX] at h
   simp<;>(repeat' first|contradiction|exact .ok|apply And.intro|intro _|(refine gc (fun h=>?_) (fun h=>?_)<;>(have h':=h;(try simp at h');first|done|simp[h,h']|simp)))
   refine acallP_of (acallT_hand [1000000] (h) (by simp) (by simp) (by simp) (by simp) (by simp) ?_)
   simp<;>(repeat' first|contradiction|exact .ok|apply And.intro|intro _|(refine gc (fun h=>?_) (fun h=>?_)<;>(have h':=h;(try simp at h');first|done|simp[h,h']|simp)))
   all_goals (rw [kept_p2]; simp [renOf,idK,idKF])
theorem own_zS:Own zSm:=fun r bl=>by simp
theorem own_s (x:Sm):Own (x.c.map AV.d):=fun r bl=>cvAs_d r bl true x.c
theorem p_readS {s:List UInt8} (hs:s.length≤1000000):∃ pos e:Int,∃ Y:Blk,
  Cf Es 11 [.d (.str s),.clo 12 [.ptr 1000000 0 0]] [.var zSm] (.tup [.d (.int .i64 pos),.d (.int .i64 e)]) [Y] ∧
  ((¬ e=0∧psR s=(zeS,pos,e)∧(Y=.dead∨Y=.var zSm))∨(∃ x:Sm,e=0∧pos=0∧Y=.var (x.c.map AV.d)∧GoodS x∧psR s=if x.dep≤24 then (x,0,0) else (zeS,0,13))):=by
 by_cases hl:s.length≤4000
 ·have hr:=p_ruleS (s:=s) (by omega)
  have ha:At (toks s) (toks s):=⟨List.suffix_refl _,toks_okE s⟩
  have hlen:=toks_len s
  cases hp:stmtP fuelN 6000 (toks s) with
  | error e =>
    rw [hp] at hr
    refine ⟨e,2,.dead,p_read_err hl own_zS hr,.inl ⟨by decide,?_,.inl rfl⟩⟩
    unfold psR full
    rw [if_pos hl,hp]
  | ok x =>
    obtain ⟨x,m⟩:=x
    rw [hp] at hr
    have hm:At (toks s) m:=ha.to (stmtP_sfx _ _ _ x m hp) (sim_idS (stmtP_sim (f:=id) (g:=id) (fun _=>⟨rfl,rfl,rfl,rfl,rfl⟩) _ _ _ ha.ok) hp)
    have hpl:=toks_place hm
    by_cases hk:(hdT m).kd=5
    ·refine ⟨0,0,_,p_read_ok (α:=Unit) hl own_zS (own_s x) hm hk (hpl.1 hk) hr,.inr ⟨x,rfl,rfl,rfl,stmtP_fit _ _ _ (by omega) x m hp,?_⟩⟩
     unfold psR full
     rw [if_pos hl,hp]
     simp only [hk,if_true]
    ·refine ⟨posT m,2,.dead,p_read_rest hl own_zS (own_s x) hm hk hpl.2 hr,.inl ⟨by decide,?_,.inl rfl⟩⟩
     unfold psR full
     rw [if_pos hl,hp]
     simp only [hk,if_false]
 ·refine ⟨0,8,.var zSm,p_read_long hl hs,.inl ⟨by decide,?_,.inr rfl⟩⟩
  unfold psR
  rw [if_neg hl]
def psA (s:List UInt8):AV:=.tup [(psR s).1.a,.d (.int .i64 (psR s).2.1),.d (.int .i64 (psR s).2.2)]
theorem p_parse {s:List UInt8} (hs:s.length≤1000000):Cf Es 6 [.d (.str s)] [] (psA s) []:=by
 obtain ⟨pos,e,Y,hr,h⟩:=p_readS hs
 unfold psA
 refine cf_intro mixs (fn:=Tryz.f6) (by kernel_rfl) rfl (by kernel_rfl) (by decide) (by simp) ?_
 rcases h with ⟨he,hp,hY⟩ | ⟨x,he,hpos,hY,hf,hp⟩
 ·rw [hp]
  simp<;>(repeat' first|contradiction|exact .ok|apply And.intro|intro _|(refine gc (fun h=>?_) (fun h=>?_)<;>(have h':=h;(try simp at h');first|done|simp[h,h']|simp)))
  rcases hY with rfl | rfl
  ·refine acallT_hand [5] hr (by simp) (by simp) (by simp) (by simp) (by simp) ?_
   simp [he]<;>(repeat' first|contradiction|exact .ok|apply And.intro|intro _|(refine gc (fun h=>?_) (fun h=>?_)<;>(have h':=h;(try simp at h');first|done|simp[h,h',he]|simp[he])))
   all_goals simp [zeS,Sm.c]
  ·refine acallT_hand [5] hr (by simp) (by simp) (by simp) (by simp) (by simp) ?_
   simp [he]<;>(repeat' first|contradiction|exact .ok|apply And.intro|intro _|(refine gc (fun h=>?_) (fun h=>?_)<;>(have h':=h;(try simp at h');first|done|simp[h,h',he]|simp[he])))
   all_goals simp [zeS,Sm.c]
 ·subst he hpos hY
  have hd:=ups (s_depth _ x (Nat.lt_succ_self _) hf.1 hf.2)
  rw [hp]
  simp<;>(repeat' first|contradiction|exact .ok|apply And.intro|intro _|(refine gc (fun h=>?_) (fun h=>?_)<;>(have h':=h;(try simp at h');first|done|simp[h,h']|simp)))
  refine acallT_hand [5] hr (by simp) (by simp) (by simp) (by simp) (by simp) ?_
  simp<;>(repeat' first|contradiction|exact .ok|apply And.intro|intro _|(refine gc (fun h=>?_) (fun h=>?_)<;>(have h':=h;(try simp at h');first|done|simp[h,h']|simp)))
  refine acallT_plain hd (by simp) ?_
  by_cases h24:x.dep≤24
  ·have h24':¬ (24:Int)<x.dep:=by omega
   rw [if_pos h24]
   simp [h24']<;>(repeat' first|contradiction|exact .ok|apply And.intro|intro _|(refine gc (fun h=>?_) (fun h=>?_)<;>(have h':=h;(try simp at h');first|done|simp[h,h',h24']|simp[h24'])))
  ·have h24':(24:Int)<x.dep:=by omega
   rw [if_neg h24]
   simp [h24']<;>(repeat' first|contradiction|exact .ok|apply And.intro|intro _|(refine gc (fun h=>?_) (fun h=>?_)<;>(have h':=h;(try simp at h');first|done|simp[h,h',h24']|simp[h24'])))
   all_goals simp [zeS,Sm.c]
end Go.Proofs.Tryz
