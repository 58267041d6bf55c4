import Derived.Test.YthpmjipkofbeiaaGreatDoorURxr
set_option linter.all false
namespace Go.Proofs.Tryz
open Go.Ab
set_option maxRecDepth 100000
set_option maxHeartbeats 8000000
def prL:List (List UInt8×List Tm)→List UInt8
 | []=>[]
 | p::r=>(if p.2=[] then [] else p.1++eH (p.2.map wr))++prL r
def aEi (d s:Bool) (J SO:List UInt8):List UInt8:=wSelect++32::((if d=true then aO++[32] else [])++((if s=true then [42] else [])++(J++32::(wFrom++32::SO))))
def aEj (w g h:List Tm):List (List UInt8×List Tm):=[([32,119,104,101,114,101,32],w),([32,103,114,111,117,112,32,98,121,32],g),([32,104,97,118,105,110,103,32],h)]
theorem aJG (d s:Bool) (is:List It) (SO JS:List UInt8) (w g h:List Tm):aEg d s is SO JS w g h=aEi d s (eH (is.map RF)) SO++(JS++prL (aEj w g h)):=by
 have hp:∀ (u:List UInt8) (ts:List Tm),WW u ts=if ts=[] then [] else (32::(u++[32]))++eH (ts.map wr):=fun u ts=>by
  unfold WW
  split
  ·rfl
  ·simp
 unfold aEg aEi aEj
 rw [prL,prL,prL,prL,hp,hp,hp]
 simp [wWhere,iO,RJ,wHaving]
structure JoK (j:Jo) (SO:List UInt8) (o:List Tm) (k:Int):Prop where
 kr:0≤k∧k≤6
 src:∃ t q n,j=.mk k t q n o∧KT t (jR q) n=SO∧Cf Ej 70 [jJ t q n] [] (.d (.str SO)) []
 on:o=[]∨∃ c,o=[c]∧WrK c
theorem aNP (d s:Bool) (is:List It) (ft:List UInt8) (fq:List Sm) (fn:List UInt8) (js:List Jo) (w g h:List Tm) (J SO OUT:List UInt8)
  (hI:Cf Ej 68 [.d (.sl (is.map It.c)),.clo 69 []] [] (.d (.str J)) [])
  (hS:Cf Ej 70 [jJ ft fq fn] [] (.d (.str SO)) [])
  (hJ:∀ j∈js,∃ so o k,JoK j so o k)
  (hP:∀ p∈aEj w g h,Cf Ej 52 [.d (.sl (p.2.map Tm.c)),.clo 23 []] [] (.d (.str (eH (p.2.map wr)))) [])
  (hjl:js.length≤1000000000000) (hO:aEi d s J SO++(yS js++prL (aEj w g h))=OUT) (hOl:OUT.length≤1099511627776) :
  Cf Ej 37 [(Sm.mk 1 false d s is ft fq fn js w g h []).a] [] (.d (.str OUT)) []:=by
 refine cI EP (fn:=Tryz.f37) rfl ?_
 obtain ⟨O1,hO1⟩:∃ O1,O1=aEi d s J SO:=⟨_,rfl⟩
 rw [← hO1] at hO
 have l1:O1.length≤1099511627776:=by rw [← hO,List.length_append] at hOl; omega
 have l2:J.length+SO.length≤1099511627776:=by
  rw [hO1] at l1
  unfold aEi at l1
  simp only [List.length_append,List.length_cons] at l1
  omega
 obtain ⟨P,hPe⟩:∃ P,P=aEj w g h:=⟨_,rfl⟩
 have hPl:P.length=3:=by rw [hPe]; rfl
 have hPm:(P.map fun p=>[D.str p.1,.sl (p.2.map Tm.c)])=[[.str [32,119,104,101,114,101,32],.sl (w.map Tm.c)],[.str [32,103,114,111,117,112,32,98,121,32],.sl (g.map Tm.c)],[.str [32,104,97,118,105,110,103,32],.sl (h.map Tm.c)]]:=by rw [hPe]; rfl
 rw [← hPe] at hO hP
 have zF:(J.length≤9223372036854775801)∧(J.length+6+SO.length≤9223372036854775807)∧(7+(J.length+(SO.length+1+1+1+1+1+1))≤9223372036854775807)∧(8+(J.length+(SO.length+1+1+1+1+1+1))≤9223372036854775807)∧(16+(J.length+(SO.length+1+1+1+1+1+1))≤9223372036854775807)∧(17+(J.length+(SO.length+1+1+1+1+1+1))≤9223372036854775807)∧True:=⟨by omega,by omega,by omega,by omega,by omega,by omega,trivial⟩ --Z
 have key:∀ y:Nat×List UInt8,y.1≤js.length→y.2++(yS (js.drop y.1)++prL P)=OUT→y.2.length≤1099511627776:=fun y _ e=>by rw [← e,List.length_append] at hOl; omega
 obtain ⟨dd,hdd⟩:∃ dd,dd=d:=⟨_,rfl⟩
 obtain ⟨ss,hss⟩:∃ ss,ss=s:=⟨_,rfl⟩
 cases d <;> cases s
 all_goals
  simp [Sm.a,Sm.c,aE,aF]<;>(repeat' first|contradiction|exact .ok|apply And.intro|intro _|(apply gc<;>simp+contextual[aF,aE]))
  refine aP hI ?_
  simp [zF]<;>(repeat' first|contradiction|exact .ok|apply And.intro|intro _|(apply gc<;>simp+contextual[zF,aE]))
  refine aA hS (by simp [jJ,kK,aE]) ?_
  simp [zF]<;>(repeat' first|contradiction|exact .ok|apply And.intro|intro _|(apply gc<;>simp+contextual[zF]))
  refine aL EP (fun y:Nat×List UInt8=>{ s:=eP [(1,.ptr 1 0 0),(4,.d (.str y.2)),(71,.d (.sl (js.map Jo.c))),(72,.d (.int .i64 js.length)),(73,.d (.int .i64 y.1))],b:=eG [(1,1,.var [.d (.int .i64 1),.d (.bool false),.d (.bool dd),.d (.bool ss),.d (.sl (is.map It.c)),.d (.str ft),.d (.sl (fq.map Sm.c)),.d (.str fn),.d (.sl (js.map Jo.c)),.d (.sl (w.map Tm.c)),.d (.sl (g.map Tm.c)),.d (.sl (h.map Tm.c)),.d (.sl [])])] })
   (fun y=>y.1≤js.length∧y.2++(yS (js.drop y.1)++prL P)=OUT) (fun y=>js.length - y.1) (0,O1) ⟨by simp,by simpa using hO⟩
   (sM _ [(1,1,_)] (by simp [aD,Blk.live,hdd,hss]) (by simp [aD,hO1,aEi,wSelect,aO,wFrom])) ?_
  rintro ⟨i,S⟩ ⟨hi,hS2⟩
  have hSl:=key (i,S) hi hS2
  simp only at hi hS2 hSl
  by_cases hlt:i<js.length
  ·have hlt':(i:Int)<js.length:=by omega
   have hwr:=wI (n:=(i:Int)+1)
   obtain ⟨j,hj⟩:∃ j,j=js[i]:=⟨_,rfl⟩
   have hge:∀ h,js[i]'h=j:=fun _=>hj.symm
   have hgo:js[i]?=some j:=by rw [hj]; exact gE hlt
   obtain ⟨so,o,k,hkr,⟨t,q,n,rfl,hso,hsrc⟩,hon⟩:=hJ j (by rw [hj]; exact List.getElem_mem hlt)
   have hjg:=aHS hkr
   have hdr:js.drop i=.mk k t q n o::js.drop (i+1):=by rw [List.drop_eq_getElem_cons hlt,← hj]
   rw [hdr,yS,wjT,hso] at hS2
   have hk0:=hkr.1
   have hj7:joL.length=7:=rfl
   have hk7:k<7:=by omega
   have hkl:∀ h,joL[k.toNat]'h=DB k.toNat:=fun h=>(List.getElem?_eq_some_iff.1 hjg).2
   have hjl2:=aBU k.toNat
   have hlen:S.length+so.length≤1099511627776:=by
    have:=congrArg List.length hS2
    simp only [List.length_append,List.length_cons] at this
    omega
   generalize DB k.toNat=jw at *
   clear hso hj hI hS hP hJ key hdr hO1 hO
   rcases hon with rfl | ⟨c,rfl,pc,lc⟩
   ·have z0:True:=trivial
    have zG:(1+jw.length≤9223372036854775807)∧(jw.length≤9223372036854775800)∧(jw.length+6+1+so.length≤9223372036854775807)∧(S.length+(jw.length+(so.length+1+1+1+1+1+1)+1)≤9223372036854775807)∧True:=⟨by omega,by omega,by omega,by omega,trivial⟩ --Z
    simp [hlt,hlt',hge,Jo.c,aE,hk0,hk7,hkl,hj7,zG]<;>(repeat' first|contradiction|exact .ok|apply And.intro|intro _|(apply gc<;>simp+contextual[hlt,hlt',hgo,hge,Jo.c,aE,hk0,hk7,hjg,hkl,hj7,zG]))
    refine aA hsrc (by simp [jJ,kK,aE]) ?_
    simp [zG]<;>(repeat' first|contradiction|exact .ok|apply And.intro|intro _|(apply gc<;>simp+contextual[zG]))
    refine ⟨(i+1,S++32::(jw++32::(wJoin++32::so))),⟨by simp only; omega,by simpa [onB] using hS2⟩,?_,by simp only; omega⟩
    exact sM _ [(1,1,_)] (by simp [aD,Blk.live]) (by simp [aD,hwr,wJoin])
   ·have z0:True:=trivial
    have hlen2:S.length+so.length+(wr c).length≤1099511627776:=by
     have:=congrArg List.length hS2
     simp only [List.length_append,List.length_cons,onB] at this
     omega
    have c1:=c.clen
    have k1:=c.ctake
    rw [onB] at hS2
    generalize wr c=wc at *
    have zH:(1+jw.length≤9223372036854775807)∧(jw.length≤9223372036854775800)∧(jw.length+6+1+so.length≤9223372036854775807)∧(S.length+(jw.length+(so.length+1+1+1+1+1+1)+1)≤9223372036854775807)∧(4+wc.length≤9223372036854775807)∧(S.length+(jw.length+(so.length+1+1+1+1+1+1)+1)+(wc.length+1+1+1+1)≤9223372036854775807)∧True:=⟨by omega,by omega,by omega,by omega,by omega,by omega,trivial⟩ --Z
    simp [hlt,hlt',hge,Jo.c,aE,hk0,hk7,hkl,hj7,zH]<;>(repeat' first|contradiction|exact .ok|apply And.intro|intro _|(apply gc<;>simp+contextual[hlt,hlt',hgo,hge,Jo.c,aE,hk0,hk7,hjg,hkl,hj7,zH]))
    refine aA hsrc (by simp [jJ,kK,aE]) ?_
    simp [zH,c1,k1]<;>(repeat' first|contradiction|exact .ok|apply And.intro|intro _|(apply gc<;>simp+contextual[zH,c1,k1]))
    refine aA (upj pc) (by simp [Tm.a]) ?_
    simp [zH]<;>(repeat' first|contradiction|exact .ok|apply And.intro|intro _|(apply gc<;>simp+contextual[zH]))
    refine ⟨(i+1,S++32::(jw++32::(wJoin++32::(so++32::(yG++32::wc))))),⟨by simp only; omega,by simpa using hS2⟩,?_,by simp only; omega⟩
    exact sM _ [(1,1,_)] (by simp [aD,Blk.live]) (by simp [aD,hwr,wJoin,yG])
  ·obtain rfl:i=js.length:=by omega
   rw [List.drop_length,yS,List.nil_append] at hS2
   simp<;>(repeat' first|contradiction|exact .ok|apply And.intro|intro _|(apply gc<;>simp+contextual))
   refine aL EP (fun y:Nat×List UInt8=>{ s:=eP [(4,.d (.str y.2)),(112,.d (.sl (P.map fun p=>[D.str p.1,.sl (p.2.map Tm.c)]))),(113,.d (.int .i64 3)),(114,.d (.int .i64 y.1))],b:=eG [] })
    (fun y=>y.1≤3∧y.2++prL (P.drop y.1)=OUT) (fun y=>3 - y.1) (0,S) ⟨by simp,by simpa using hS2⟩
    (aJ _ [] .nil (by simp [aD,hPm])) ?_
   clear hS2
   rintro ⟨i,S⟩ ⟨hi,hS2⟩
   simp only at hi hS2
   by_cases hlt:i<3
   ·have hlt':(i:Int)<3:=by omega
    have hwr:=wI (n:=(i:Int)+1)
    obtain ⟨p,hp⟩:∃ p,p=P[i]:=⟨_,rfl⟩
    have hgo:P[i]?=some p:=by rw [hp]; exact gE (by omega)
    have hge:∀ h,P[i]'h=p:=fun _=>hp.symm
    have hdr:P.drop i=p::P.drop (i+1):=by rw [List.drop_eq_getElem_cons (by omega),← hp]
    have hc:=hP p (by rw [hp]; exact List.getElem_mem _)
    rw [hdr,prL] at hS2
    obtain ⟨u,ts⟩:=p
    simp only at hc hS2
    clear hp hdr hJ hO hS hI key
    cases ts with
    | nil =>
      rw [if_pos rfl,List.nil_append] at hS2
      simp [hlt,hlt',hge,hPl]<;>(repeat' first|contradiction|exact .ok|apply And.intro|intro _|(apply gc<;>simp+contextual[hlt,hlt',hgo,hge,hPl]))
      refine ⟨(i+1,S),⟨by simp only; omega,hS2⟩,?_,by simp only; omega⟩
      exact aJ _ [] .nil (by simp [aD,hwr])
    | cons t ts =>
      rw [if_neg (by simp)] at hS2
      generalize eH ((t::ts).map wr)=JT at *
      have hlen2:S.length+u.length+JT.length≤1099511627776:=by
       have:=congrArg List.length hS2
       simp only [List.length_append] at this
       omega
      have hpos:(0:Int)<(ts.length:Int)+1:=by omega
      simp only [List.map_cons] at hc
      have zI:(u.length+JT.length≤9223372036854775807)∧(S.length+(u.length+JT.length)≤9223372036854775807)∧True:=⟨by omega,by omega,trivial⟩ --Z
      simp [hlt,hlt',hge,hPl,hpos]<;>(repeat' first|contradiction|exact .ok|apply And.intro|intro _|(apply gc<;>simp+contextual[hlt,hlt',hgo,hge,hPl,hpos]))
      refine aP hc ?_
      simp [zI]<;>(repeat' first|contradiction|exact .ok|apply And.intro|intro _|(apply gc<;>simp+contextual[zI]))
      refine ⟨(i+1,S++(u++JT)),⟨by simp only; omega,by simpa using hS2⟩,?_,by simp only; omega⟩
      exact aJ _ [] .nil (by simp [aD,hwr])
   ·obtain rfl:i=3:=by omega
    rw [List.drop_eq_nil_of_le (by omega),prL,List.append_nil] at hS2
    subst hS2
    simp [hPl] <;> exact gz
end Go.Proofs.Tryz
