import Derived.Test.YthbnleoonldffaaGreatDoorQDmp
import Derived.Test.YthbnleoonldffaaGreatDoorQR8w
import Derived.Test.YthbnleoonldffaaGreatDoorQSfi
import Derived.Test.YthbnleoonldffaaGreatDoorQChq
set_option linter.all false
namespace Go.Proofs.Tryz
open Go.Ab
set_option maxRecDepth 100000
set_option maxHeartbeats 16000000
def jY (R:List (List V)) (b:Bool):AV:=.tup [.d (.sl (R.map cC)),.d (.bool b)]
theorem KZ {S:List Tb} {I:List (List (List V))} {n:List UInt8} {k:Nat} (hfi:Cf En 52 [aR S,.d (.str n)] [] (.tup [.d (.int .i64 k),.d (.bool true)]) []) {R:List (List V)} (hk:I[k]?=some R) (hR:R.length≤1000):Cf En 54 [aR S,dK I,(OB n).a] [] (jY R true) []:=by
 obtain ⟨hkl,hkg0⟩:=List.getElem?_eq_some_iff.1 hk
 have hkg:∀ h,I[k]'h=R:=fun _=>hkg0
 have hRi:(R.length:Int)≤1000:=by omega
 refine aD aW (fn:=Tryz.f54) (by kernel_rfl) rfl (by kernel_rfl) (by decide) (by simp) ?_
 simp [OB,cH,aG,Qy.a,Qy.c,aM,exZ0,Ex.a,Ex.c,cA,aR,dK,jY]
 (repeat' first|contradiction|exact .ok|apply And.intro|intro _|(apply gc<;>simp+contextual))
 refine aL aW (by decide) (fun _:Unit=>{ s:=cG [(3,.ptr 3 0 0),(4,.ptr 4 0 0),(5,.ptr 5 0 0),(9,.d (.int .i64 0))],b:=cE [(3,3,.var [.d (.sl (S.map Tb.c))]),(4,4,.var [.d (.sl (I.map gM))]),(5,5,.var ((OB n).c.map AV.d))] }) (fun _=>True) (fun _=>0) () trivial
  (aE _ [(3,3,_),(4,4,_),(5,5,_)] ⟨by simp,by simp,by simp [aB,Blk.live,OB,cH,aG,Qy.c,aM,exZ0,Ex.c,cA],by simp⟩ (by simp [aB])) ?_
 intro _ _
 simp [OB,cH,aG,Qy.a,Qy.c,aM,exZ0,Ex.a,Ex.c,cA]
 (repeat' first|contradiction|exact .ok|apply And.intro|intro _|(apply gc<;>simp+contextual))
 refine aA hfi (by simp [aR]) ?_
 simp [hkl,hkg,gM,hR,hRi]
 (repeat' first|contradiction|exact .ok|apply And.intro|intro _|(apply gc<;>simp+contextual[hR,hRi]))
theorem ZV {S:List Tb} (hl:S.length≤1000) (hS:∀ x∈S,x.ok) {I:List (List (List V))} {e:Ex} (he:e.few 0=true) {qa qb:Qy} (ca:CQ qa) (cb:CQ qb) (da:qa.dep≤1000000) (db:qb.dep≤1000000) {A B:List (List V)}
  (hA:Cf En 54 [aR S,dK I,qa.a] [] (jY A true) []) (hB:Cf En 54 [aR S,dK I,qb.a] [] (jY B true) []) (rA:∀ r∈A,r.length≤500) (rB:∀ r∈B,r.length≤500) (hAl:A.length≤1000) (hBl:B.length≤1000) (hAB:A.length*B.length≤50000) (hJ:(QZ e A B).length≤1000) :
  Cf En 54 [aR S,dK I,(cH 5 [] 1 e [qa,qb]).a] [] (jY (QZ e A B) true) []:=by
 obtain ⟨wa,_,hwa⟩:=LB hl hS ca da
 obtain ⟨wb,_,hwb⟩:=LB hl hS cb db
 have hjo:=aCA he [qa,qb] rA rB hAl hBl hAB wa wb
 have hmul:(A.length:Int)*B.length=((A.length*B.length:Nat):Int):=(Int.natCast_mul _ _).symm
 have hABw:IntKind.i64.wrap ((A.length:Int)*B.length)=(A.length:Int)*B.length:=by
  rw [hmul]
  exact aH (by omega) (by omega)
 have hABn:¬ (50000:Int)<(A.length:Int)*B.length:=by
  rw [hmul]
  omega
 have hABm:¬ 50000<A.length*B.length:=by omega
 have hJi:((QZ e A B).length:Int)≤1000:=by omega
 generalize QZ e A B=Y at *
 have hla:=Qy.clen qa
 have hta:=Qy.ctake qa
 have hlb:=Qy.clen qb
 have htb:=Qy.ctake qb
 obtain ⟨o,c,n,t,g,kk⟩:=e
 clear rA rB hAB hmul
 refine aD aW (fn:=Tryz.f54) (by kernel_rfl) rfl (by kernel_rfl) (by decide) (by simp) ?_
 simp [cH,aG,Qy.a,Qy.c,aM,Ex.a,Ex.c,aC,aR,dK,jY]
 (repeat' first|contradiction|exact .ok|apply And.intro|intro _|(apply gc<;>simp+contextual))
 refine aL aW (by decide) (fun i:Nat=>{ s:=cG [(3,.ptr 3 0 0),(4,.ptr 4 0 0),(5,.ptr 5 0 0),(8,.ref 908 0 i 1),(9,.d (.int .i64 i))],b:=cE [(3,3,.var [.d (.sl (S.map Tb.c))]),(4,4,.var [.d (.sl (I.map gM))]),(5,5,.var ((cH 5 [] 1 (.mk o c n t g kk) [qa,qb]).c.map AV.d)),(908,908,.arr 27 1 (([A,B].take i).map gM) false)] }) (fun i=>i≤2) (fun i=>2 - i) 0 (by simp)
  (dW 8 908 27 1 (by simp) (by simp) (by decide) (by decide) _ [(3,3,_),(4,4,_),(5,5,_),(908,908,_)] ⟨by simp,by simp,by simp [aB,Blk.live,cH,aG,Qy.a,Qy.c,aM,Ex.a,Ex.c,aC],by simp⟩ (by simp [aB])) ?_
 intro i hi
 by_cases hlt:i<2
 ·obtain ⟨q,R,hq,hR,hc⟩:∃ (q:Qy) (R:List (List V)),[qa,qb][i]?=some q∧[A,B][i]?=some R∧Cf En 54 [aR S,dK I,q.a] [] (jY R true) []:=by
   match i,hlt with
   | 0,_=>exact ⟨qa,A,rfl,rfl,hA⟩
   | 1,_=>exact ⟨qb,B,rfl,rfl,hB⟩
  obtain ⟨hql1,hqg0⟩:=List.getElem?_eq_some_iff.1 hq
  have hqg:∀ h,[qa,qb][i]'h=q:=fun _=>hqg0
  obtain ⟨hRl1,hRg0⟩:=List.getElem?_eq_some_iff.1 hR
  have hsu:([A,B].take (i+1)).map gM=([A,B].take i).map gM++[[D.sl (R.map cC)]]:=by rw [bV hRl1,List.map_append,hRg0]; rfl
  have hkl:(([A,B].take i).map gM).length=i:=by rw [List.length_map,List.length_take]; simp only [List.length_cons,List.length_nil] at hRl1 ⊢; omega
  have hql:=Qy.clen q
  have hqt:=Qy.ctake q
  have hs1:=eI i (by omega) 24 (by decide)
  have hs2:=eI (i+1) (by omega) 24 (by decide)
  have hw:=aH (n:=(i:Int)+1) (by omega) (by omega)
  have hks:∀ (h:i<([qa,qb].map Qy.c).length),([qa,qb].map Qy.c)[i]'h=q.c:=fun h=>by rw [List.getElem_map,hqg]
  have hkll:([qa,qb].map Qy.c).length=2:=rfl
  have hlti:(i:Int)<2:=by omega
  generalize ([A,B].take i).map gM=Z at *
  generalize hKl:[qa,qb].map Qy.c=KC at *
  have htk:Z.take i=Z:=List.take_of_length_le (by omega)
  unfold jY at hc
  simp [cH,aG,Qy.a,Qy.c,aM,Ex.a,Ex.c,aC,aR,dK,hKl,hkll,hlt,hlti,hks,hql,hqt]
  (repeat' first|contradiction|exact .ok|apply And.intro|intro _|(apply gc<;>simp+contextual))
  refine aA hc (by simp [aR,dK,Qy.a,hqt]) ?_
  simp [hkl,hs1,hs2,htk]
  (repeat' first|contradiction|exact .ok|apply And.intro|intro _|(apply gc<;>simp+contextual))
  refine ⟨i+1,by omega,?_,by simp; omega⟩
  simp only [hsu]
  exact aE _ [(3,3,_),(4,4,_),(5,5,_),(908,42,_)] ⟨by simp,by simp,by simp [aB,Blk.live,cH,aG,Qy.a,Qy.c,aM,Ex.a,Ex.c,aC,hKl],by simp⟩ (by simp [aB,hw])
 obtain rfl:i=2:=by omega
 simp [cH,aG,Qy.a,Qy.c,aM,Ex.a,Ex.c,aC,gM,hABw,hABn,hABm]
 (repeat' first|contradiction|exact .ok|apply And.intro|intro _|(apply gc<;>simp+contextual[hABn,hABm]))
 simp [cH,aG,Qy.a,Qy.c,aM,Ex.a,Ex.c,aC,gM,hABw,hABn,hABm,hla,hlb,hta,htb]
 refine aA hwa (by simp [aR,Qy.a,hta]) ?_
 simp [hlb,htb]
 refine aA hwb (by simp [aR,Qy.a,htb]) ?_
 simp
 refine aA hjo (by simp [cH,aG,Qy.a,Qy.c,aM,Ex.a,Ex.c,aC]) ?_
 simp [hJ,hJi]
 (repeat' first|contradiction|exact .ok|apply And.intro|intro _|(apply gc<;>simp+contextual[hJ,hJi]))
def CL (e:Ex) (A:List (List V)) (i:Nat):List (List V):=(A.take i).filter fun r=>(aI e r).tr==1
theorem UQ {e:Ex} {A:List (List V)} {i:Nat} (h:i<A.length):CL e A (i+1)=if (aI e A[i]).tr==1 then CL e A i++[A[i]] else CL e A i:=by
 unfold CL
 rw [List.take_succ_eq_append_getElem h,List.filter_append,List.filter_cons,List.filter_nil]
 split <;> simp
theorem ZW (e:Ex) (A:List (List V)) (i:Nat):(CL e A i).length≤A.length:=by
 unfold CL
 have:=List.length_filter_le (fun r=>(aI e r).tr==1) (A.take i)
 rw [List.length_take] at this
 omega
theorem ZX {S:List Tb} {I:List (List (List V))} {e:Ex} (he:e.few 0=true) {qa:Qy} {A:List (List V)}
  (hA:Cf En 54 [aR S,dK I,qa.a] [] (jY A true) []) (rA:∀ r∈A,r.length≤500) (hAl:A.length≤1000) :
  Cf En 54 [aR S,dK I,(cH 3 [] 0 e [qa]).a] [] (jY (A.filter fun r=>(aI e r).tr==1) true) []:=by
 have hev:=fun row (hr:row.length≤9223372036854775807)=>qK row hr (SizeOf.sizeOf e+1) e (by omega) 0 he
 have hfin:(A.filter fun r=>(aI e r).tr==1)=CL e A A.length:=by unfold CL; rw [List.take_length]
 rw [hfin]
 have hla:=Qy.clen qa
 have hta:=Qy.ctake qa
 have hz0:CL e A 0=[]:=rfl
 have hzs:=fun i (h:i<A.length)=>UQ (e:=e) h
 have hzl:=fun i=>ZW e A i
 generalize hZ:CL e A=Z at *
 clear hfin
 obtain ⟨o,c,n,t,g,kk⟩:=e
 refine aD aW (fn:=Tryz.f54) (by kernel_rfl) rfl (by kernel_rfl) (by decide) (by simp) ?_
 simp [cH,aG,Qy.a,Qy.c,aM,Ex.a,Ex.c,aC,aR,dK,jY]
 (repeat' first|contradiction|exact .ok|apply And.intro|intro _|(apply gc<;>simp+contextual))
 refine aL aW (by decide) (fun i:Nat=>{ s:=cG [(3,.ptr 3 0 0),(4,.ptr 4 0 0),(5,.ptr 5 0 0),(8,.ref 908 0 i 1),(9,.d (.int .i64 i))],b:=cE [(3,3,.var [.d (.sl (S.map Tb.c))]),(4,4,.var [.d (.sl (I.map gM))]),(5,5,.var ((cH 3 [] 0 (.mk o c n t g kk) [qa]).c.map AV.d)),(908,908,.arr 27 1 (([A].take i).map gM) false)] }) (fun i=>i≤1) (fun i=>1 - i) 0 (by simp)
  (dW 8 908 27 1 (by simp) (by simp) (by decide) (by decide) _ [(3,3,_),(4,4,_),(5,5,_),(908,908,_)] ⟨by simp,by simp,by simp [aB,Blk.live,cH,aG,Qy.a,Qy.c,aM,Ex.a,Ex.c,aC],by simp⟩ (by simp [aB])) ?_
 intro i hi
 by_cases hlt:i<1
 ·obtain ⟨q,R,hq,hR,hc⟩:∃ (q:Qy) (R:List (List V)),[qa][i]?=some q∧[A][i]?=some R∧Cf En 54 [aR S,dK I,q.a] [] (jY R true) []:=by
   obtain rfl:i=0:=by omega
   exact ⟨qa,A,rfl,rfl,hA⟩
  obtain ⟨hql1,hqg0⟩:=List.getElem?_eq_some_iff.1 hq
  have hqg:∀ h,[qa][i]'h=q:=fun _=>hqg0
  obtain ⟨hRl1,hRg0⟩:=List.getElem?_eq_some_iff.1 hR
  have hsu:([A].take (i+1)).map gM=([A].take i).map gM++[[D.sl (R.map cC)]]:=by rw [bV hRl1,List.map_append,hRg0]; rfl
  have hkl:(([A].take i).map gM).length=i:=by rw [List.length_map,List.length_take]; simp only [List.length_cons,List.length_nil] at hRl1 ⊢; omega
  have hql:=Qy.clen q
  have hqt:=Qy.ctake q
  have hs1:=eI i (by omega) 24 (by decide)
  have hs2:=eI (i+1) (by omega) 24 (by decide)
  have hw:=aH (n:=(i:Int)+1) (by omega) (by omega)
  have hks:∀ (h:i<([qa].map Qy.c).length),([qa].map Qy.c)[i]'h=q.c:=fun h=>by rw [List.getElem_map,hqg]
  have hkll:([qa].map Qy.c).length=1:=rfl
  have hlti:(i:Int)<1:=by omega
  generalize ([A].take i).map gM=Z at *
  generalize hKl:[qa].map Qy.c=KC at *
  have htk:Z.take i=Z:=List.take_of_length_le (by omega)
  unfold jY at hc
  simp [cH,aG,Qy.a,Qy.c,aM,Ex.a,Ex.c,aC,aR,dK,hKl,hkll,hlt,hlti,hks,hql,hqt]
  (repeat' first|contradiction|exact .ok|apply And.intro|intro _|(apply gc<;>simp+contextual))
  refine aA hc (by simp [aR,dK,Qy.a,hqt]) ?_
  simp [hkl,hs1,hs2,htk]
  (repeat' first|contradiction|exact .ok|apply And.intro|intro _|(apply gc<;>simp+contextual))
  refine ⟨i+1,by omega,?_,by simp; omega⟩
  simp only [hsu]
  exact aE _ [(3,3,_),(4,4,_),(5,5,_),(908,42,_)] ⟨by simp,by simp,by simp [aB,Blk.live,cH,aG,Qy.a,Qy.c,aM,Ex.a,Ex.c,aC,hKl],by simp⟩ (by simp [aB,hw])
 obtain rfl:i=1:=by omega
 simp [cH,aG,Qy.a,Qy.c,aM,Ex.a,Ex.c,aC]
 (repeat' first|contradiction|exact .ok|apply And.intro|intro _|(apply gc<;>simp+contextual))
 refine aL aW (by decide) (fun i:Nat=>{ s:=cG [(5,.ptr 5 0 0),(8,.ref 908 0 1 1),(12,.ref 912 0 (Z i).length 1),(15,.d (.int .i64 i))],b:=cE [(5,5,.var ((cH 3 [] 0 (.mk o c n t g kk) [qa]).c.map AV.d)),(908,908,.arr 27 1 [[.sl (A.map cC)]] false),(912,912,.arr 118 1 ((Z i).map cC) false)] }) (fun i=>i≤A.length) (fun i=>A.length - i) 0 (by simp)
  (dW 12 912 118 1 (by simp) (by simp) (by decide) (by decide) _ [(5,5,_),(908,908,_),(912,912,_)] ⟨by simp,by simp,by simp [aB,Blk.live,cH,aG,Qy.a,Qy.c,aM,Ex.a,Ex.c,aC,gM,hz0],by simp⟩ (by simp [aB,hz0])) ?_
 intro i hi
 by_cases hlt:i<A.length
 ·obtain ⟨a,ha⟩:∃ r,r=A[i]:=⟨_,rfl⟩
  have hga:∀ h,A[i]'h=a:=fun _=>ha.symm
  have hal:=rA a (by rw [ha]; exact List.getElem_mem hlt)
  have hev1:=hev a (by omega)
  have htr:=jF (aI (.mk o c n t g kk) a)
  have hs:=hzs i hlt
  rw [← ha] at hs
  have hl:=hzl i
  have hw:=aH (n:=(i:Int)+1) (by omega) (by omega)
  obtain ⟨Y,hY⟩:∃ Y,Y=Z i:=⟨_,rfl⟩
  rw [← hY] at hs hl ⊢
  have htk:(Y.map cC).take Y.length=Y.map cC:=List.take_of_length_le (by simp)
  have hs1:=eI Y.length (by omega) 24 (by decide)
  have hs2:=eI (Y.length+1) (by omega) 24 (by decide)
  by_cases h1:(aI (.mk o c n t g kk) a).tr=1
  ·rw [if_pos (by simp [h1])] at hs
   rw [h1] at htr
   generalize aI (.mk o c n t g kk) a=z at *
   simp [hlt,hga,cC,cH,aG,Qy.a,Qy.c,aM,Ex.a,Ex.c,aC]
   (repeat' first|contradiction|exact .ok|apply And.intro|intro _|(apply gc<;>simp+contextual))
   refine aA hev1 (by simp [Ex.a,Ex.c,aC]) ?_
   simp [V.a]
   refine aA htr (by simp [V.a]) ?_
   simp [hlt,hga,cC,htk,hs1,hs2]
   (repeat' first|contradiction|exact .ok|apply And.intro|intro _|(apply gc<;>simp+contextual))
   refine ⟨i+1,by omega,?_,by simp; omega⟩
   simp only [hs]
   exact aE _ [(5,5,_),(908,908,_),(912,92,_)] ⟨by simp,by simp,by simp [aB,Blk.live,cC,cH,aG,Qy.c,aM,Ex.c,aC],by simp⟩ (by simp [aB,hw])
  ·rw [if_neg (by simpa using h1)] at hs
   generalize aI (.mk o c n t g kk) a=z at *
   simp [hlt,hga,cC,cH,aG,Qy.a,Qy.c,aM,Ex.a,Ex.c,aC]
   (repeat' first|contradiction|exact .ok|apply And.intro|intro _|(apply gc<;>simp+contextual))
   refine aA hev1 (by simp [Ex.a,Ex.c,aC]) ?_
   simp [V.a]
   refine aA htr (by simp [V.a]) ?_
   simp [h1]
   (repeat' first|contradiction|exact .ok|apply And.intro|intro _|(apply gc<;>simp+contextual[h1]))
   refine ⟨i+1,by omega,?_,by simp; omega⟩
   simp only [hs]
   exact aE _ [(5,5,_),(908,908,_),(912,912,_)] ⟨by simp,by simp,by simp [aB,Blk.live,cC,cH,aG,Qy.c,aM,Ex.c,aC],by simp⟩ (by simp [aB,hw])
 obtain rfl:i=A.length:=by omega
 have hl:=hzl A.length
 obtain ⟨Y,hY⟩:∃ Y,Y=Z A.length:=⟨_,rfl⟩
 rw [← hY] at hl ⊢
 have htk:(Y.map cC).take Y.length=Y.map cC:=List.take_of_length_le (by simp)
 have hYl:Y.length≤1000:=by omega
 have hYi:(Y.length:Int)≤1000:=by omega
 simp [htk,hYl,hYi]
 (repeat' first|contradiction|exact .ok|apply And.intro|intro _|(apply gc<;>simp+contextual[hYl,hYi]))
end Go.Proofs.Tryz
