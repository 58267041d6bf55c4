import Derived.Test.YthbnleoonldffaaGreatDoorQR8w
import Derived.Test.YthbnleoonldffaaGreatDoorQChq
import Derived.Test.YthbnleoonldffaaGreatDoorQRwc
set_option linter.all false
namespace Go.Proofs.Tryz
open Go.Ab
set_option maxRecDepth 100000
set_option maxHeartbeats 8000000
theorem PM {n:Nat}:∀ {m:Nat} {a b:List (List V)},(∀ r∈a,r.length≤n)→(∀ r∈b,r.length≤n)→∀ r∈CH m a b,r.length≤n
 | 0,a,b,_,_,r,h=>by cases h
 | m+1,a,b,ha,hb,r,h=>by
   have hd:∀ l:List (List V),(∀ r∈l,r.length≤n)→(l.headD []).length≤n:=fun l hl=>by
    cases l with
    | nil=>exact Nat.zero_le _
    | cons x l=>exact hl x List.mem_cons_self
   have ht:∀ l:List (List V),(∀ r∈l,r.length≤n)→∀ r∈l.tail,r.length≤n:=fun l hl r hr=>hl r (List.mem_of_mem_tail hr)
   rw [CH] at h
   split at h
   ·rcases List.mem_cons.1 h with rfl | h
    ·exact hd a ha
    ·exact PM (ht a ha) hb r h
   ·rcases List.mem_cons.1 h with rfl | h
    ·exact hd b hb
    ·exact PM ha (ht b hb) r h
theorem xZ {n:Nat}:∀ {m:Nat} {R:List (List V)},(∀ r∈R,r.length≤n)→∀ r∈vQ m R,r.length≤n
 | 0,R,h=>h
 | m+1,R,h=>by
   rw [vQ]
   split
   ·exact h
   ·exact PM (xZ fun r hr=>h r (List.mem_of_mem_take hr)) (xZ fun r hr=>h r (List.mem_of_mem_drop hr))
theorem aFH {a b:List (List V)} {i k j:Nat} (hi:i<a.length) (h:OP (a.drop i) (b.drop k)=true):CH (j+1) (a.drop i) (b.drop k)=a[i]::CH j (a.drop (i+1)) (b.drop k):=by
 rw [CH,if_pos h,List.tail_drop]
 rw [show (a.drop i).headD []=a[i] from by rw [List.drop_eq_getElem_cons hi]; rfl]
theorem aFI {a b:List (List V)} {i k j:Nat} (hk:k<b.length) (h:¬ OP (a.drop i) (b.drop k)=true):CH (j+1) (a.drop i) (b.drop k)=b[k]::CH j (a.drop i) (b.drop (k+1)):=by
 rw [CH,if_neg h,List.tail_drop]
 rw [show (b.drop k).headD []=b[k] from by rw [List.drop_eq_getElem_cons hk]; rfl]
theorem EH (R:List (List V)) (h:R.length<2) (hr:∀ r∈R,r.length≤1000):Cf En 55 [.d (.sl (R.map cC))] [] (.d (.sl (R.map cC))) []:=by
 have h2:(R.length:Int)<2:=by omega
 refine aD aW (fn:=Tryz.f55) (by kernel_rfl) rfl (by kernel_rfl) (by decide) (by simp) ?_
 simp [h,h2]
 (repeat' first|contradiction|exact .ok|apply And.intro|intro _|(apply gc<;>simp+contextual[h,h2]))
 refine aL aW (by decide) (fun i:Nat=>{ s:=cG [(0,.d (.sl (R.map cC))),(3,.ref 903 0 i 1),(4,.d (.int .i64 i))],b:=cE [(903,903,.arr 118 1 ((R.take i).map cC) false)] }) (fun i=>i≤R.length) (fun i=>R.length - i) 0 (by simp)
  (dW 3 903 118 1 (by simp) (by simp) (by decide) (by decide) _ [(903,903,_)] ⟨by simp,by simp,by simp [aB,Blk.live],by simp⟩ (by simp [aB])) ?_
 intro i hi
 by_cases hlt:i<R.length
 ·obtain ⟨r,hrr⟩:∃ r,r=R[i]:=⟨_,rfl⟩
  have hgr:∀ h,R[i]'h=r:=fun _=>hrr.symm
  have hcp:=UR r (hr r (by rw [hrr]; exact List.getElem_mem hlt))
  have hw:=aH (n:=(i:Int)+1) (by omega) (by omega)
  have hl:((R.take i).map cC).length=i:=by simp; omega
  have hsu:(R.take (i+1)).map cC=(R.take i).map cC++[[D.sl (r.map V.c)]]:=by rw [bV hlt,List.map_append,hgr]; rfl
  generalize (R.take i).map cC=Z at *
  have htk:Z.take i=Z:=List.take_of_length_le (by omega)
  have hs1:=eI i (by omega) 24 (by decide)
  have hs2:=eI (i+1) (by omega) 24 (by decide)
  simp [hlt,hgr,cC]
  (repeat' first|contradiction|exact .ok|apply And.intro|intro _|(apply gc<;>simp+contextual))
  refine aA hcp (by simp) ?_
  simp [hs1,hs2,hl,htk]
  (repeat' first|contradiction|exact .ok|apply And.intro|intro _|(apply gc<;>simp+contextual))
  refine ⟨i+1,by omega,?_,by simp; omega⟩
  simp only [hsu]
  exact aE _ [(903,26,_)] ⟨by simp,by simp,by simp [aB,Blk.live],by simp⟩ (by simp [aB,hw])
 obtain rfl:i=R.length:=by omega
 rw [List.take_length]
 have htk:(R.map cC).take R.length=R.map cC:=List.take_of_length_le (by simp)
 simp [htk]
 all_goals exact gz
theorem BE:∀ (m:Nat) (R:List (List V)),R.length≤2 ^ m→R.length≤1000→(∀ r∈R,r.length≤1000)→Cf En 55 [.d (.sl (R.map cC))] [] (.d (.sl ((vQ m R).map cC))) []
 | 0,R,h,_,hr=>EH R (by omega) hr
 | m+1,R,h,hR,hr=>by
   by_cases h2:R.length<2
   ·rw [vQ,if_pos h2]
    exact EH R h2 hr
   rw [vQ,if_neg h2]
   have h2i:¬ (R.length:Int)<2:=by omega
   have hpw:2 ^ (m+1)=2*2 ^ m:=by rw [Nat.pow_succ,Nat.mul_comm]
   have hA:=BE m (R.take (R.length / 2)) (by rw [List.length_take]; omega) (by rw [List.length_take]; omega) fun r hh=>hr r (List.mem_of_mem_take hh)
   have hB:=BE m (R.drop (R.length / 2)) (by rw [List.length_drop]; omega) (by rw [List.length_drop]; omega) fun r hh=>hr r (List.mem_of_mem_drop hh)
   have hAl:=AN m (R.take (R.length / 2))
   have hBl:=AN m (R.drop (R.length / 2))
   rw [List.length_take] at hAl
   rw [List.length_drop] at hBl
   have hAr:=xZ (m:=m) (n:=1000) (R:=R.take (R.length / 2)) fun r hh=>hr r (List.mem_of_mem_take hh)
   have hBr:=xZ (m:=m) (n:=1000) (R:=R.drop (R.length / 2)) fun r hh=>hr r (List.mem_of_mem_drop hh)
   obtain ⟨q,hq⟩:∃ q,q=R.length / 2:=⟨_,rfl⟩
   have hqi:(R.length:Int).tdiv 2=(q:Int):=by
    rw [hq,Int.tdiv_eq_ediv_of_nonneg (by omega)]
    omega
   rw [← hq] at hA hB hAl hBl hAr hBr
   rw [← hq]
   have hq1:q≤R.length:=by omega
   have hwq:=aH (n:=(q:Int)) (by omega) (by omega)
   generalize vQ m (R.take q)=A at *
   generalize vQ m (R.drop q)=B at *
   have hN:R.length=A.length+B.length:=by omega
   have hAi:(A.length:Int)≤1000:=by omega
   have hBi:(B.length:Int)≤1000:=by omega
   refine aD aW (fn:=Tryz.f55) (by kernel_rfl) rfl (by kernel_rfl) (by decide) (by simp) ?_
   rw [hN]
   simp only [List.map_take,List.map_drop] at hA hB
   have hRl:((R.map cC).drop q).take (R.length - q)=(R.map cC).drop q:=List.take_of_length_le (by simp)
   have hone:∀ x∈R.map cC,x.length=1:=by
    intro x hx
    obtain ⟨n,_,rfl⟩:=List.mem_map.1 hx
    rfl
   have hx1:∀ x∈(R.map cC).take q,x.length=1:=fun x hx=>hone x (List.mem_of_mem_take hx)
   have hx2:∀ x∈(R.map cC).drop q,x.length=1:=fun x hx=>hone x (List.mem_of_mem_drop hx)
   clear hone
   simp [h2,h2i,hqi,hwq,hq1,eq_true hx1]
   (repeat' first|contradiction|exact .ok|apply And.intro|intro _|(apply gc<;>simp+contextual[h2,h2i]))
   refine aA hA (by simp) ?_
   simp [hqi,hwq,hq1,hRl,eq_true hx2]
   refine aA hB (by simp [hRl]) ?_
   simp
   (repeat' first|contradiction|exact .ok|apply And.intro|intro _|(apply gc<;>simp+contextual))
   refine aL aW (by decide) (fun y:Nat×Nat×List (List V)=>{ s:=cG [(5,.d (.sl (A.map cC))),(6,.d (.sl (B.map cC))),(7,.ref 907 0 y.2.2.length 1),(8,.d (.int .i64 y.1)),(9,.d (.int .i64 y.2.1))],b:=cE [(907,907,.arr 118 1 (y.2.2.map cC) false)] })
    (fun y=>(y.1≤A.length∧y.2.1≤B.length)∧y.2.2.length=y.1+y.2.1∧CH (A.length+B.length) A B=y.2.2++CH (A.length+B.length - (y.1+y.2.1)) (A.drop y.1) (B.drop y.2.1)) (fun y=>A.length+B.length - (y.1+y.2.1)) (0,0,[]) ⟨by simp,by simp,by simp⟩
    (dW 7 907 118 1 (by simp) (by simp) (by decide) (by decide) _ [(907,907,_)] ⟨by simp,by simp,by simp [aB,Blk.live],by simp⟩ (by simp [aB])) ?_
   rintro ⟨i,k,O⟩ ⟨⟨hi,hk⟩,hO,hm⟩
   simp only at hi hk hO hm ⊢
   have htk:(O.map cC).take O.length=O.map cC:=List.take_of_length_le (by simp)
   have hs1:=eI O.length (by omega) 24 (by decide)
   have hs2:=eI (O.length+1) (by omega) 24 (by decide)
   have hwi:=aH (n:=(i:Int)+1) (by omega) (by omega)
   have hwk:=aH (n:=(k:Int)+1) (by omega) (by omega)
   have goA:∀ (hlt:i<A.length),OP (A.drop i) (B.drop k)=true→CH (A.length+B.length) A B=(O++[A[i]])++CH (A.length+B.length - (i+1+k)) (A.drop (i+1)) (B.drop k):=fun hlt hf=>by
    rw [hm,show A.length+B.length - (i+k)=(A.length+B.length - (i+1+k))+1 from by omega,aFH hlt hf]
    simp
   have goB:∀ (hlt:k<B.length),¬ OP (A.drop i) (B.drop k)=true→CH (A.length+B.length) A B=(O++[B[k]])++CH (A.length+B.length - (i+(k+1))) (A.drop i) (B.drop (k+1)):=fun hlt hf=>by
    rw [hm,show A.length+B.length - (i+k)=(A.length+B.length - (i+(k+1)))+1 from by omega,aFI hlt hf]
    simp
   have dA:∀ (hlt:i<A.length),A.drop i=A[i]::A.drop (i+1):=fun hlt=>List.drop_eq_getElem_cons hlt
   have dB:∀ (hlt:k<B.length),B.drop k=B[k]::B.drop (k+1):=fun hlt=>List.drop_eq_getElem_cons hlt
   have hm2:=hm
   clear hA hB hm
   by_cases hia:i<A.length
   ·obtain ⟨a,ha⟩:∃ r,r=A[i]:=⟨_,rfl⟩
    have hga:∀ h,A[i]'h=a:=fun _=>ha.symm
    have hal:=hAr a (by rw [ha]; exact List.getElem_mem hia)
    by_cases hkb:k<B.length
    ·obtain ⟨b,hb⟩:∃ r,r=B[k]:=⟨_,rfl⟩
     have hgb:∀ h,B[k]'h=b:=fun _=>hb.symm
     have hbl:=hBr b (by rw [hb]; exact List.getElem_mem hkb)
     have hcm:=aCJ a b (by omega) (by omega)
     have hkn:¬ (k:Int)=B.length:=by omega
     have hkn2:¬ k=B.length:=by omega
     have hfs:OP (A.drop i) (B.drop k)=decide (eK a b≤0):=by rw [dA hia,dB hkb,← ha,← hb]; rfl
     by_cases hc:eK a b≤0
     ·have hg:=goA hia (by rw [hfs]; simpa using hc)
      rw [← ha] at hg
      clear goA goB dA dB hfs
      generalize eK a b=z at *
      simp [hia,hkb,hga,hgb,cC,hkn,hkn2]
      (repeat' first|contradiction|exact .ok|apply And.intro|intro _|(apply gc<;>simp+contextual[hkn,hkn2]))
      refine aA hcm (by simp) ?_
      simp [hc,hia,hga,cC,htk,hs1,hs2]
      (repeat' first|contradiction|exact .ok|apply And.intro|intro _|(apply gc<;>simp+contextual[hc]))
      refine ⟨(i+1,k,O++[a]),⟨⟨by simp only; omega,hk⟩,by simp [hO]; omega,hg⟩,?_,by simp only; omega⟩
      exact aE _ [(907,78,_)] ⟨by simp,by simp,by simp [aB,Blk.live,cC],by simp⟩ (by simp [aB,hwi]; try omega)
     ·have hg:=goB hkb (by rw [hfs]; simpa using hc)
      rw [← hb] at hg
      clear goA goB dA dB hfs
      generalize eK a b=z at *
      simp [hia,hkb,hga,hgb,cC,hkn,hkn2]
      (repeat' first|contradiction|exact .ok|apply And.intro|intro _|(apply gc<;>simp+contextual[hkn,hkn2]))
      refine aA hcm (by simp) ?_
      simp [hc,hkb,hgb,cC,htk,hs1,hs2]
      (repeat' first|contradiction|exact .ok|apply And.intro|intro _|(apply gc<;>simp+contextual[hc]))
      refine ⟨(i,k+1,O++[b]),⟨⟨hi,by simp only; omega⟩,by simp [hO]; omega,hg⟩,?_,by simp only; omega⟩
      exact aE _ [(907,87,_)] ⟨by simp,by simp,by simp [aB,Blk.live,cC],by simp⟩ (by simp [aB,hwk]; try omega)
    ·obtain rfl:k=B.length:=by omega
     have hg:=goA hia (by rw [dA hia,List.drop_eq_nil_of_le (Nat.le_refl _)]; rfl)
     rw [← ha] at hg
     clear goA goB dA dB
     simp [hia,hga,cC]
     (repeat' first|contradiction|exact .ok|apply And.intro|intro _|(apply gc<;>simp+contextual))
     simp [hia,hga,cC,htk,hs1,hs2]
     (repeat' first|contradiction|exact .ok|apply And.intro|intro _|(apply gc<;>simp+contextual))
     refine ⟨(i+1,B.length,O++[a]),⟨⟨by simp only; omega,hk⟩,by simp [hO]; omega,hg⟩,?_,by simp only; omega⟩
     exact aE _ [(907,78,_)] ⟨by simp,by simp,by simp [aB,Blk.live,cC],by simp⟩ (by simp [aB,hwi]; try omega)
   ·obtain rfl:i=A.length:=by omega
    by_cases hkb:k<B.length
    ·obtain ⟨b,hb⟩:∃ r,r=B[k]:=⟨_,rfl⟩
     have hgb:∀ h,B[k]'h=b:=fun _=>hb.symm
     have hkn:¬ (k:Int)=B.length:=by omega
     have hkn2:¬ k=B.length:=by omega
     have hg:=goB hkb (by rw [dB hkb,List.drop_eq_nil_of_le (Nat.le_refl _)]; simp [OP])
     rw [← hb] at hg
     clear goA goB dA dB
     simp [hkb,hgb,cC,hkn,hkn2]
     (repeat' first|contradiction|exact .ok|apply And.intro|intro _|(apply gc<;>simp+contextual[hkn,hkn2]))
     simp [hkb,hgb,cC,htk,hs1,hs2]
     (repeat' first|contradiction|exact .ok|apply And.intro|intro _|(apply gc<;>simp+contextual))
     refine ⟨(A.length,k+1,O++[b]),⟨⟨hi,by simp only; omega⟩,by simp [hO]; omega,hg⟩,?_,by simp only; omega⟩
     exact aE _ [(907,87,_)] ⟨by simp,by simp,by simp [aB,Blk.live,cC],by simp⟩ (by simp [aB,hwk]; try omega)
    ·obtain rfl:k=B.length:=by omega
     have hg:CH (A.length+B.length) A B=O:=by
      rw [hm2]
      simp [CH]
     rw [hg]
     simp
     (repeat' first|contradiction|exact .ok|apply And.intro|intro _|(apply gc<;>simp+contextual))
     all_goals first | exact List.take_of_length_le (by omega) | (simp [htk]; done) | skip
end Go.Proofs.Tryz
