import Derived.Test.YthpmjipkofbeiaaGreatDoorUTpn
import Derived.Test.YthpmjipkofbeiaaGreatDoorUSqyRow
set_option linter.all false
namespace Go.Proofs.Tryz
open Go.Ab
set_option maxHeartbeats 2000000
set_option maxRecDepth 100000
def Jo.on:Jo→List Tm | .mk _ _ _ _ o=>o
abbrev S3:=List UInt8×List Sm×List UInt8
def Jo.so:Jo→S3 | .mk _ t q n _=>(t,q,n)
def S3.c (s:S3):List D:=kK s.1 s.2.1 s.2.2
theorem S3.clen (s:S3):(S3.c s).length=3:=rfl
def S3.dep (s:S3):Int:=kN s.2.1
theorem AU:∀ js:List Jo,tU js=max (fY ((js.map Jo.so).map S3.dep)) (aAF (js.flatMap Jo.on))
 | []=>by rw [tU]; rfl
 | .mk k t q n o::js=>by
   rw [tU,AU js,Jo.dep,List.flatMap_cons,dZ (_++_),List.map_append,rG,← dZ,← dZ]
   simp only [List.map_cons,fY,Jo.so,S3.dep,Jo.on]
   omega
theorem aII (ks:List Sm) (t:List UInt8) (fq:List Sm) (n:List UInt8) (js:List Jo) (w g h:List Tm) (is:List It) :
  max (max (kN ks) (aAF (w++g++h++is.map It.t++js.flatMap Jo.on))) (fY (((t,fq,n)::js.map Jo.so).map S3.dep)) =
   max (kN ks) (max (kN fq) (max (aAF w) (max (aAF g) (max (aAF h) (max (KB is) (tU js)))))):=by
 rw [AU,KB,dZ (w++g++h++is.map It.t++js.flatMap Jo.on)]
 simp only [List.map_append,rG,List.map_cons,fY]
 rw [← dZ w,← dZ g,← dZ h,dZ (is.map It.t),dZ (js.flatMap Jo.on),S3.dep]
 simp only
 generalize kN ks=a
 generalize kN fq=b
 generalize aAF w=c
 generalize aAF g=d
 generalize aAF h=e
 generalize fY ((is.map It.t).map Tm.dep)=f
 generalize fY ((js.flatMap Jo.on).map Tm.dep)=g'
 generalize fY ((js.map Jo.so).map S3.dep)=h'
 simp only [Int.max_def]
 grind
theorem QJ:∀ (m:Nat) (x:Sm),SizeOf.sizeOf x<m→x.fits→x.small→Cf En 45 [x.a] [] (.d (.int .i64 x.dep)) []
 | 0,_,h,_,_=>absurd h (by omega)
 | m+1,x,hm,hfit,hsm=>by
   refine cI fQ (fn:=Tryz.f45) rfl ?_
   have hq:=fun (a:Sm) (ha:SizeOf.sizeOf a<m) (fa:a.fits) (sa:a.small)=>QJ m a ha fa sa
   obtain ⟨f,al,d,s,is,ft,fq,fn,js,w,g,h,ks⟩:=x
   have hfq:∀ a∈fq,SizeOf.sizeOf a<m:=fun a ha=>by
    have:=Sm.q_lt (e:=.mk f al d s is ft fq fn js w g h ks) ha
    omega
   have hks:∀ a∈ks,SizeOf.sizeOf a<m:=fun a ha=>by
    have:=Sm.kid_lt (e:=.mk f al d s is ft fq fn js w g h ks) ha
    omega
   have hjs:∀ j∈js,∀ a∈j.qs,SizeOf.sizeOf a<m:=fun j hj a ha=>by
    have:=Sm.j_lt (e:=.mk f al d s is ft fq fn js w g h ks) hj
    have:=Jo.q_lt ha
    omega
   rw [Sm.fits] at hfit
   obtain ⟨⟨fi1,fi2⟩,⟨fq1,fq2⟩,⟨fj1,fj2⟩,⟨fw1,fw2⟩,⟨fg1,fg2⟩,⟨fh1,fh2⟩,fk1,fk2⟩:=hfit
   rw [Sm.small] at hsm
   obtain ⟨si,sj,sw,sg,sh,sq,sj2,sk⟩:=hsm
   rw [Sm.dep,← aII ks ft fq fn js w g h is]
   have hkids:=fun (a:Sm) (ha:a∈ks)=>hq a (hks a ha) (dB _ fk2 a ha) (oW _ sk a ha)
   simp [Sm.a,Sm.c,aE,aF]
   refine ⟨.ok,.ok,.ok,?_⟩
   refine aL fQ (fun i:Nat=>{ s:=eP [(1,.ptr 1 0 0),(3,.d (.int .i64 (fY ((ks.map Sm.dep).take i)))),(19,.d (.sl (ks.map Sm.c))),(20,.d (.int .i64 ks.length)),(21,.d (.int .i64 i))],b:=eG [(1,1,.var (Sm.a (.mk f al d s is ft fq fn js w g h ks)).cells)] }) (fun i:Nat=>i≤ks.length) (fun i=>ks.length - i) 0 (by simp) (aJ _ _ ⟨by simp,by simp,by simp [aD,Blk.live,Sm.a,Sm.c,aE,aF],by simp⟩ (by simp [aD,fY])) ?_
   rintro i hi
   by_cases hlt:i<ks.length
   ·have hlt':(i:Int)<ks.length:=by omega
    have hg:ks[i]?=some ks[i]:=gE hlt
    have hk:=sT (l:=ks.map Sm.dep) (i:=i) (x:=ks[i].dep) (by rw [List.getElem?_map,hg]; rfl)
    have c1:=Sm.clen ks[i]
    have k1:=Sm.ctake ks[i]
    simp [Sm.a,Sm.c,aE,aF,hlt,hlt',c1,k1]
    refine ⟨.ok,.ok,?_⟩
    refine aA (hkids ks[i] (List.getElem_mem hlt)) (by simp [Sm.a]) ?_
    simp
    refine ⟨.ok,.ok,i+1,hlt,?_,?_⟩
    ·refine sM _ [(1,1,_)] (by simp [aD,Blk.live,aE,aF]) ?_
     simp [aD]
     exact ⟨hk,aZ (by omega) (by omega)⟩
    ·simp; omega
   ·have hlt':¬ (i:Int)<ks.length:=by omega
    have hall:=lG (l:=ks.map Sm.dep) (i:=i) (by simp; omega)
    have hcon:=aGe w g h (by omega) (by omega) (by omega)
    obtain ⟨A,hA⟩:∃ A,A=w++g++h:=⟨_,rfl⟩
    have hAl:A.length≤30000:=by rw [hA]; simp; omega
    have hA2:w.length+g.length+h.length=A.length:=by rw [hA]; simp [Nat.add_assoc]
    rw [hA2,← hA] at hcon
    have hAf:cC A:=by rw [hA]; exact eT _ _ (eT _ _ fw2 fg2) fh2
    simp [Sm.a,Sm.c,aE,aF,hlt,hlt',hall]
    refine ⟨.ok,?_⟩
    refine GW [] hcon (by simp) (by simp) (by simp) (by decide) (by simp) (by simp) (by simp) ?_
    simp
    refine ⟨.ok,.ok,.ok,?_⟩
    obtain ⟨K,hK⟩:∃ K,K=kN ks:=⟨_,rfl⟩
    rw [← mA,← hK]
    obtain ⟨TI,hTI⟩:∃ TI:Nat→List Tm,TI=fun i=>A++(is.take i).map It.t:=⟨_,rfl⟩
    have hTIl:∀ i,(TI i).length≤40000:=fun i=>by rw [hTI]; simp; omega
    refine aL fQ (fun i:Nat=>{ s:=eP [(1,.ptr 1 0 0),(3,.d (.int .i64 K)),(6,.ref 6 0 (TI i).length 6),(7,.ref 7 0 1 3),(42,.d (.sl (is.map It.c))),(43,.d (.int .i64 is.length)),(44,.d (.int .i64 i))],b:=eG [(1,1,.var (Sm.a (.mk f al d s is ft fq fn js w g h ks)).cells),(6,6,.arr 25 6 ((TI i).map Tm.c) false),(7,7,.arr 40 3 [S3.c (ft,fq,fn)] false)] }) (fun i:Nat=>i≤is.length) (fun i=>is.length - i) 0 (by simp) (sM _ [(1,1,_),(6,38000,_),(7,40,_)] (by simp [aD,Blk.live,Sm.a,Sm.c,aE,aF,hTI,S3.c,kK]) (by simp [aD,hTI])) ?_
    clear hi hlt hlt' hall i
    rintro i hi
    by_cases hlt:i<is.length
    ·have hlt':(i:Int)<is.length:=by omega
     obtain ⟨x,hg⟩:∃ x,is[i]?=some x:=⟨_,gE hlt⟩
     have hgi:∀ h,is[i]'h=_:=fun h=>(List.getElem?_eq_some_iff.1 hg).2
     have hnext:TI (i+1)=TI i++[x.t]:=by
      rw [hTI]
      simp only [List.take_add_one,hg,Option.toList_some,List.map_append,List.map_cons,List.map_nil,List.append_assoc]
     obtain ⟨⟨o0,y0,n0,t0,q0,ks0⟩,nm⟩:=x
     have b1:((TI i).length+1)*80≤140737488355328:=by have:=hTIl i; omega
     have b2:(TI i).length+1≤9223372036854775807:=by have:=hTIl i; omega
     simp [Sm.a,Sm.c,aE,aF,hlt,hlt',hgi,It.c,Tm.c,aS,b1,b2]
     refine ⟨.ok,.ok,.ok,.ok,i+1,hlt,?_,by simp; omega⟩
     refine sM _ [(1,1,_),(6,52,_),(7,7,_)] (by simp [aD,Blk.live,aE,aF,hnext,S3.c,kK,Tm.c,aS]) ?_
     simp [aD,hnext]
     exact aZ (by omega) (by omega)
    ·have hlt':¬ (i:Int)<is.length:=by omega
     have hend:TI i=A++is.map It.t:=by rw [hTI]; simp only; rw [List.take_of_length_le (by omega)]
     obtain ⟨B,hB⟩:∃ B,B=A++is.map It.t:=⟨_,rfl⟩
     rw [← hB] at hend
     have hBl:B.length≤40000:=by rw [hB]; simp; omega
     have hBf:cC B:=by rw [hB]; exact eT _ _ hAf fi2
     simp [Sm.a,Sm.c,aE,aF,hlt,hlt',hend]
     refine ⟨.ok,.ok,?_⟩
     obtain ⟨TJ,hTJ⟩:∃ TJ:Nat→List Tm,TJ=fun i=>B++(js.take i).flatMap Jo.on:=⟨_,rfl⟩
     obtain ⟨SJ,hSJ⟩:∃ SJ:Nat→List S3,SJ=fun i=>(ft,fq,fn)::(js.take i).map Jo.so:=⟨_,rfl⟩
     have hon:∀ l:List Jo,(∀ j∈l,j.on.length≤10000)→(l.flatMap Jo.on).length≤10000*l.length:=fun l=>by
      induction l with
      | nil=>intro _; simp
      | cons j l ih =>
        intro hj
        have h1:=hj j List.mem_cons_self
        have h2:=ih fun x hx=>hj x (List.mem_cons_of_mem _ hx)
        rw [List.flatMap_cons,List.length_append,List.length_cons]
        omega
     have honj:∀ j∈js,j.on.length≤10000:=fun j hj=>by
      have:=tM _ sj2 j hj
      obtain ⟨k,t,q,n,o⟩:=j
      rw [Jo.small] at this
      exact this.1
     have hTJl:∀ i,(TJ i).length≤100040000:=fun i=>by
      rw [hTJ]
      have:=hon (js.take i) fun j hj=>honj j (List.mem_of_mem_take hj)
      rw [List.length_append]
      have hl:(js.take i).length≤10000:=by rw [List.length_take]; omega
      omega
     have hSJl:∀ i,(SJ i).length≤10001:=fun i=>by
      rw [hSJ]
      simp
      omega
     refine aL fQ (fun i:Nat=>{ s:=eP [(1,.ptr 1 0 0),(3,.d (.int .i64 K)),(6,.ref 6 0 (TJ i).length 6),(7,.ref 7 0 (SJ i).length 3),(55,.d (.sl (js.map Jo.c))),(56,.d (.int .i64 js.length)),(57,.d (.int .i64 i))],b:=eG [(1,1,.var (Sm.a (.mk f al d s is ft fq fn js w g h ks)).cells),(6,6,.arr 25 6 ((TJ i).map Tm.c) false),(7,7,.arr 40 3 ((SJ i).map S3.c) false)] }) (fun i:Nat=>i≤js.length) (fun i=>js.length - i) 0 (by simp) (sM _ [(1,1,_),(6,6,_),(7,7,_)] (by simp [aD,Blk.live,Sm.a,Sm.c,aE,aF,hTJ,hSJ,S3.c,kK]) (by simp [aD,hTJ,hSJ])) ?_
     clear hi hlt hlt' hend i
     rintro i hi
     by_cases hlt:i<js.length
     ·have hlt':(i:Int)<js.length:=by omega
      obtain ⟨x,hg⟩:∃ x,js[i]?=some x:=⟨_,gE hlt⟩
      have hgi:∀ h,js[i]'h=_:=fun h=>(List.getElem?_eq_some_iff.1 hg).2
      have hnext:TJ (i+1)=TJ i++x.on:=by
       rw [hTJ]
       simp only [List.take_add_one,hg,Option.toList_some,List.flatMap_append,List.flatMap_cons,List.flatMap_nil,List.append_nil,List.append_assoc]
      have hnext2:SJ (i+1)=SJ i++[x.so]:=by
       rw [hSJ]
       simp only [List.take_add_one,hg,Option.toList_some,List.map_append,List.map_cons,List.map_nil,List.cons_append]
      have hol:=honj x (List.mem_of_getElem? hg)
      obtain ⟨k0,t0,q0,n0,o0⟩:=x
      simp only [Jo.on,Jo.so] at hnext hnext2 hol
      have b1:((TJ i).length+o0.length)*80≤140737488355328:=by have:=hTJl i; omega
      have b2:(TJ i).length+o0.length≤9223372036854775807:=by have:=hTJl i; omega
      have b3:((SJ i).length+1)*56≤140737488355328:=by have:=hSJl i; omega
      have b4:(SJ i).length+1≤9223372036854775807:=by have:=hSJl i; omega
      simp [Sm.a,Sm.c,aE,aF,hlt,hlt',hgi,Jo.c,b1,b2,b3,b4,Tm.clen]
      refine ⟨.ok,.ok,.ok,.ok,i+1,hlt,?_,by simp; omega⟩
      refine sM _ [(1,1,_),(6,64,_),(7,69,_)] (by simp [aD,Blk.live,aE,aF,hnext,hnext2,S3.c,kK]) ?_
      simp [aD,hnext,hnext2]
      exact aZ (by omega) (by omega)
     ·have hlt':¬ (i:Int)<js.length:=by omega
      have hend:TJ i=B++js.flatMap Jo.on:=by rw [hTJ]; simp only; rw [List.take_of_length_le (by omega)]
      have hend2:SJ i=(ft,fq,fn)::js.map Jo.so:=by rw [hSJ]; simp only; rw [List.take_of_length_le (by omega)]
      have hTl:=hTJl i
      have hSl:=hSJl i
      rw [hend] at hTl
      rw [hend2] at hSl
      have hjf:∀ l:List Jo,iI l→cC (l.flatMap Jo.on):=fun l=>by
       induction l with
       | nil=>intro _; rw [List.flatMap_nil,cC]; trivial
       | cons j l ih =>
         intro hj
         rw [iI] at hj
         rw [List.flatMap_cons]
         obtain ⟨k,t,q,n,o⟩:=j
         have h1:=hj.1
         rw [Jo.fits] at h1
         exact eT _ _ h1.2.2 (ih hj.2)
      have hTf:cC (B++js.flatMap Jo.on):=eT _ _ hBf (hjf js fj2)
      have hSq:∀ u∈(ft,fq,fn)::js.map Jo.so,u.2.1.length≤9223372036854775807∧∀ a∈u.2.1,Cf En 45 [a.a] [] (.d (.int .i64 a.dep)) []:=fun u hu=>by
       rcases List.mem_cons.1 hu with rfl | hu
       ·exact ⟨fq1,fun a ha=>hq a (hfq a ha) (dB _ fq2 a ha) (oW _ sq a ha)⟩
       ·obtain ⟨j,hj,rfl⟩:=List.mem_map.1 hu
        have h1:=jB _ fj2 j hj
        have h2:=tM _ sj2 j hj
        have h3:=hjs j hj
        obtain ⟨k,t,q,n,o⟩:=j
        rw [Jo.fits] at h1
        rw [Jo.small] at h2
        exact ⟨h1.1.1,fun a ha=>hq a (h3 a ha) (dB _ h1.1.2 a ha) (oW _ h2.2 a ha)⟩
      have hres:w++g++h++is.map It.t++js.flatMap Jo.on=B++js.flatMap Jo.on:=by rw [hB,hA]
      rw [hres]
      obtain ⟨T,hT⟩:∃ T,T=B++js.flatMap Jo.on:=⟨_,rfl⟩
      obtain ⟨S,hS⟩:∃ S,S=(ft,fq,fn)::js.map Jo.so:=⟨_,rfl⟩
      rw [← hT] at hend hTl hTf ⊢
      rw [← hS] at hend2 hSl hSq ⊢
      have hK0:0≤K:=by rw [hK,mA]; exact mB _
      clear hon honj hTJl hSJl hjf hres hB hBl hBf hA hAl hAf hA2 hcon hkids hq hfq hks hjs
      simp [Sm.a,Sm.c,aE,aF,hlt,hlt',hend,hend2]
      refine ⟨.ok,.ok,?_⟩
      refine aL fQ (fun i:Nat=>{ s:=eP [(3,.d (.int .i64 (max K (fY ((T.map Tm.dep).take i))))),(7,.ref 7 0 S.length 3),(71,.ref 71 0 T.length 6),(72,.d (.int .i64 T.length)),(73,.d (.int .i64 i))],b:=eG [(7,7,.arr 40 3 (S.map S3.c) false),(71,71,.arr 25 6 (T.map Tm.c) false)] }) (fun i:Nat=>i≤T.length) (fun i=>T.length - i) 0 (by simp) (sM _ [(7,7,_),(71,6,_)] (by simp [aD,Blk.live]) (by simp [aD,fY]; omega)) ?_
      clear hi hlt hlt' hend hend2 i
      rintro i hi
      by_cases hlt:i<T.length
      ·have hlt':(i:Int)<T.length:=by omega
       obtain ⟨x,hg⟩:∃ x,T[i]?=some x:=⟨_,gE hlt⟩
       have hgi:∀ h,T[i]'h=_:=fun h=>(List.getElem?_eq_some_iff.1 hg).2
       have hk:=pH (l:=T.map Tm.dep) (i:=i) (x:=x.dep) (by rw [List.getElem?_map,hg]; rfl)
       have hcall:=vS _ x (Nat.lt_succ_self _) (dL _ hTf x (List.mem_of_getElem? hg))
       have c1:=x.clen
       have k1:=x.ctake
       simp [hlt,hlt',hgi,c1,k1]
       refine ⟨.ok,.ok,?_⟩
       refine aA hcall (by simp [Tm.a]) ?_
       simp [mxi]
       refine ⟨.ok,.ok,i+1,hlt,?_,by simp; omega⟩
       refine sM _ [(7,7,_),(71,71,_)] (by simp [aD,Blk.live]) ?_
       simp [aD]
       refine ⟨?_,aZ (by omega) (by omega)⟩
       try simp at hk
       rw [hk]
       try omega
      ·have hlt':¬ (i:Int)<T.length:=by omega
       have hall:=lG (l:=T.map Tm.dep) (i:=i) (by simp; omega)
       obtain ⟨N,hN⟩:∃ N,N=max K (aAF T):=⟨_,rfl⟩
       have hall':max K (fY ((T.map Tm.dep).take i))=N:=by rw [hall,hN,dZ]
       rw [← hN]
       have hN0:0≤N:=by omega
       simp [hlt,hlt',hall']
       refine ⟨.ok,.ok,?_⟩
       refine aL fQ (fun i:Nat=>{ s:=eP [(3,.d (.int .i64 (max N (fY ((S.map S3.dep).take i))))),(82,.ref 82 0 S.length 3),(83,.d (.int .i64 S.length)),(84,.d (.int .i64 i))],b:=eG [(82,82,.arr 40 3 (S.map S3.c) false)] }) (fun i:Nat=>i≤S.length) (fun i=>S.length - i) 0 (by simp) (sM _ [(82,7,_)] (by simp [aD,Blk.live]) (by simp [aD,fY]; omega)) ?_
       clear hi hlt hlt' hall hall' i
       rintro i hi
       by_cases hlt:i<S.length
       ·have hlt':(i:Int)<S.length:=by omega
        obtain ⟨x,hg⟩:∃ x,S[i]?=some x:=⟨_,gE hlt⟩
        have hgi:∀ h,S[i]'h=_:=fun h=>(List.getElem?_eq_some_iff.1 hg).2
        have hk:=pH (l:=S.map S3.dep) (i:=i) (x:=S3.dep x) (by rw [List.getElem?_map,hg]; rfl)
        have hcall:=hSq x (List.mem_of_getElem? hg)
        obtain ⟨t0,q0,n0⟩:=x
        simp only [S3.dep] at hk
        obtain ⟨M,hM⟩:∃ M,M=max N (fY ((S.map S3.dep).take i)):=⟨_,rfl⟩
        have hM0:0≤M:=by omega
        rw [← hM]
        simp [hlt,hlt',hgi,S3.c,kK]
        refine ⟨.ok,.ok,.ok,?_⟩
        refine aL fQ (fun j:Nat=>{ s:=eP [(3,.d (.int .i64 (max M (fY ((q0.map Sm.dep).take j))))),(82,.ref 82 0 S.length 3),(83,.d (.int .i64 S.length)),(84,.d (.int .i64 i)),(89,.d (.sl (q0.map Sm.c))),(90,.d (.int .i64 q0.length)),(91,.d (.int .i64 j))],b:=eG [(82,82,.arr 40 3 (S.map S3.c) false)] }) (fun j:Nat=>j≤q0.length) (fun j=>q0.length - j) 0 (by simp) (sM _ [(82,82,_)] (by simp [aD,Blk.live]) (by simp [aD,fY,aE]; omega)) ?_
        rintro j hj
        by_cases hjl:j<q0.length
        ·have hjl':(j:Int)<q0.length:=by omega
         obtain ⟨y,hy⟩:∃ y,q0[j]?=some y:=⟨_,gE hjl⟩
         have hyi:∀ h,q0[j]'h=_:=fun h=>(List.getElem?_eq_some_iff.1 hy).2
         have hk2:=pH (l:=q0.map Sm.dep) (i:=j) (x:=y.dep) (by rw [List.getElem?_map,hy]; rfl)
         have hc2:=hcall.2 y (List.mem_of_getElem? hy)
         have hql:=hcall.1
         simp only at hql
         have c1:=y.clen
         have k1:=y.ctake
         simp [hjl,hjl',hyi,c1,k1]
         refine ⟨.ok,.ok,?_⟩
         refine aA hc2 (by simp [Sm.a]) ?_
         simp [mxi]
         refine ⟨.ok,.ok,j+1,hjl,?_,by simp; omega⟩
         refine sM _ [(82,82,_)] (by simp [aD,Blk.live]) ?_
         simp [aD]
         refine ⟨?_,aZ (by omega) (by omega)⟩
         try simp at hk2
         rw [hk2]
         try omega
        ·have hjl':¬ (j:Int)<q0.length:=by omega
         have hall:=lG (l:=q0.map Sm.dep) (i:=j) (by simp; omega)
         simp [hjl,hjl',hall]
         refine ⟨.ok,.ok,i+1,hlt,?_,by simp; omega⟩
         refine sM _ [(82,82,_)] (by simp [aD,Blk.live]) ?_
         simp [aD]
         refine ⟨?_,aZ (by omega) (by omega)⟩
         try simp at hk
         rw [hk,mA,hM]
         omega
       ·have hlt':¬ (i:Int)<S.length:=by omega
        have hall:=lG (l:=S.map S3.dep) (i:=i) (by simp; omega)
        simp [hlt,hlt',hall,yO]
        exact ⟨.ok,.of (by kernel_rfl)⟩
end Go.Proofs.Tryz
