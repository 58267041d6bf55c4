import Derived.Test.YtkkbepgccddjoaaGreatDoorCln
import Derived.Test.YtkkbepgccddjoaaGreatDoorCEnvR
import Derived.Test.YtkkbepgccddjoaaGreatDoorCSty
set_option linter.all false
namespace Go.Proofs.Tryz
open Go.Ab
set_option maxRecDepth 100000
set_option maxHeartbeats 8000000
def qI (ts:List Int) (o c n g:Int) (t:List UInt8) (kts:List Int):Int×Int :=
 if (bR o&&hY o c n g t)=false then (0,1) else if bN o kts.length=false then (0,9)
 else if o=5∧¬ (0≤g∧g<ts.length) then (0,3) else dK ts o c g kts
mutual
def iC (ts:List Int):Ex→Int×Int
 | .mk o c n t g ks=>if (KW ts ks).2=0 then qI ts o c n g t (KW ts ks).1 else (0,(KW ts ks).2)
def KW (ts:List Int):List Ex→List Int×Int
 | []=>([],0)
 | x::xs=>if (iC ts x).2=0 then (if (KW ts xs).2=0 then ((iC ts x).1::(KW ts xs).1,0) else ([],(KW ts xs).2)) else ([],(iC ts x).2)
end
theorem yH (ts:List Int):∀ l:List Ex,KW ts l=kY (iC ts) l
 | []=>by rw [KW,kY]
 | x::xs=>by rw [KW,kY,yH ts xs]
theorem aAa {o:Int} (h1:6≤o) (h2:o≤28) {k:Nat} (h:bN o k=true):1≤k∧((bQ o).2.2.1=6→k=3):=by
 rcases wO h1 h2 with rfl | rfl | rfl | rfl | rfl | rfl | rfl | rfl | rfl | rfl | rfl | rfl | rfl | rfl | rfl | rfl | rfl | rfl | rfl | rfl | rfl | rfl | rfl <;> simp [bN,bR,bQ,ops] at h <;> simp [bQ,ops] <;> omega
theorem KX {o:Int} (h:bR o=true):1≤o∧o≤28:=by
 unfold bR at h
 simpa using h
theorem KY {o:Int} {k:Nat} (h:bN o k=true):((bQ o).2.2.1=4→1≤k)∧((bQ o).2.2.1=6→k=3)∧(o ≠ 1→o ≠ 5→(bQ o).2.2.2=0→1≤k)∧(o≤5→k=0):=by
 have hio:bR o=true:=by
  unfold bN at h
  rw [Bool.and_eq_true] at h
  exact h.1
 obtain ⟨a,b⟩:=KX hio
 by_cases h6:6≤o
 ·obtain ⟨c,d⟩:=aAa h6 b h
  exact ⟨fun _=>c,d,fun _ _ _=>c,fun e=>by omega⟩
 ·rcases (by omega:o=1∨o=2∨o=3∨o=4∨o=5) with rfl | rfl | rfl | rfl | rfl <;> simp [bN,bR,bQ,ops] at h ⊢ <;> exact h
def qJ (ts:List Int) (ks:List Ex) (i:Nat):List Int:=(ks.take i).map fun z=>(iC ts z).1
theorem PV {ts:List Int} {ks:List Ex} {i:Nat} (h:i≤ks.length):(qJ ts ks i).length=i:=by unfold qJ; simp; omega
theorem HR {ts:List Int} {ks:List Ex} {i:Nat} (h:i<ks.length):qJ ts ks (i+1)=qJ ts ks i++[(iC ts ks[i]).1]:=by unfold qJ; rw [bI h,List.map_append]; rfl
theorem pA (ts:List Int) (ks:List Ex):qJ ts ks ks.length=ks.map fun z=>(iC ts z).1:=by simp [qJ]
theorem EI (l:List Int) (z:Int):aD (l++[z])=aD l++[[.int .i64 z]]:=by simp [aD]
theorem sJ (ts:List Int) (o c n g:Int) (t:List UInt8) (ks:List Ex) (h:∀ x∈ks,(iC ts x).2=0):iC ts (.mk o c n t g ks)=qI ts o c n g t (qJ ts ks ks.length):=by
 rw [iC,yH,PW h,if_pos rfl,pA]
theorem KZ (ts:List Int) (o c n g:Int) (t:List UInt8) (ks:List Ex) {i:Nat} {x:Ex} (ho:∀ j y,j<i→ks[j]?=some y→(iC ts y).2=0) (hx:ks[i]?=some x) (h:(iC ts x).2 ≠ 0):iC ts (.mk o c n t g ks)=(0,(iC ts x).2):=by
 rw [iC,yH,HS ho hx h,if_neg h]
theorem aFh (ts:List Int) (hts:ts.length≤1000) (o c n g:Int) (t:List UInt8) (ks:List Ex) (hk:ks.length≤12)
  (hrec:∀ z∈ks,Cf Es 132 [.d (.sl (aD ts)),z.a] [] (.tup [.d (.int .i64 (iC ts z).1),.d (.int .i64 (iC ts z).2)]) []) :
  Cf Es 132 [.d (.sl (aD ts)),(Ex.mk o c n t g ks).a] [] (.tup [.d (.int .i64 (iC ts (.mk o c n t g ks)).1),.d (.int .i64 (iC ts (.mk o c n t g ks)).2)]) []:=by
 refine cI bM (fn:=Tryz.f132) rfl ?_
 have hkn:=upo (UW o c n t g ks)
 have hcl:=eG (aFG o c n g t ks)
 rw [Ex.a] at hkn hcl
 simp [Ex.a,Ex.c,aE] at hkn hcl ⊢
 (repeat' first|contradiction|exact .ok|apply And.intro|intro _|(apply gc<;>simp+contextual))
 refine aL bM (fun i:Nat=>{ s:=cE [(0,.d (.sl (aD ts))),(3,.ptr 3 0 0),(6,.ref 900 0 i 1),(15,.d (.sl (ks.map Ex.c))),(16,.d (.int .i64 ks.length)),(17,.d (.int .i64 i))],b:=cC [(3,3,.var [.d (.int .i64 o),.d (.int .i64 c),.d (.int .i64 n),.d (.str t),.d (.int .i64 g),.d (.sl (ks.map Ex.c))]),(900,900,.arr 3 1 (aD (qJ ts ks i)) false)] })
  (fun i=>i≤ks.length∧∀ j z,j<i→ks[j]?=some z→(iC ts z).2=0) (fun i=>ks.length - i) 0 (by simp)
  (fD 6 900 3 1 (by simp) (by simp) (by decide) (by decide) _ [(3,3,_),(900,900,_)] ⟨by simp,by simp,by simp [aB,Blk.live,qJ,aD],by simp⟩ (by simp [aB])) ?_
 rintro i ⟨hi,ho⟩
 have hKl:=PV (ts:=ts) hi
 by_cases hlt:i<ks.length
 ·have hg:ks[i]?=some ks[i]:=gE hlt
  obtain ⟨z,hz⟩:∃ z,z=ks[i]:=⟨_,rfl⟩
  have hzm:z∈ks:=by rw [hz]; exact List.getElem_mem hlt
  have hr:=hrec z hzm
  have hgi:∀ h,ks[i]'h=z:=fun _=>hz.symm
  have hnx:=HR (ts:=ts) hlt
  have hw:=wI (n:=(i:Int)+1)
  rw [← hz] at hg hnx
  by_cases he:(iC ts z).2=0
  ·have hok:∀ j w,j<i+1→ks[j]?=some w→(iC ts w).2=0:=fun j w hj hjw=>by
    rcases Nat.lt_or_ge j i with c | c
    ·exact ho j w c hjw
    ·have:j=i:=by omega
     subst this
     rw [hg] at hjw
     cases hjw
     exact he
   rw [he] at hr
   generalize (iC ts z).1=kk at hr hnx
   generalize hK:qJ ts ks i=K at *
   have htk:(aD K).take i=aD K:=List.take_of_length_le (by simp [hKl])
   clear hkn hcl
   rcases z with ⟨zo,zc,zn,zt,zg,zk⟩
   simp [hlt,hgi,Ex.c]
   (repeat' first|contradiction|exact .ok|apply And.intro|intro _|(apply gc<;>simp+contextual))
   refine aA hr (by simp [Ex.a,Ex.c]) ?_
   simp [hKl,gF (i+1) (by omega) 8 (by decide)]
   (repeat' first|contradiction|exact .ok|apply And.intro|intro _|(apply gc<;>simp+contextual))
   refine ⟨i+1,⟨hlt,hok⟩,?_,by simp; omega⟩
   exact sM _ [(3,3,_),(900,33,_)] (by simp [aB,Blk.live,hnx,EI]) (by simp [aB,hw])
  ·rw [KZ ts o c n g t ks ho hg he]
   generalize (iC ts z).2=ee at *
   generalize (iC ts z).1=kk at hr
   clear hkn hcl
   rcases z with ⟨zo,zc,zn,zt,zg,zk⟩
   simp [hlt,hgi,Ex.c]
   (repeat' first|contradiction|exact .ok|apply And.intro|intro _|(apply gc<;>simp+contextual))
   refine aA hr (by simp [Ex.a,Ex.c]) ?_
   simp [he]
   (repeat' first|contradiction|exact .ok|apply And.intro|intro _|(apply gc<;>simp+contextual[he]))
 obtain rfl:i=ks.length:=by omega
 have hall:∀ x∈ks,(iC ts x).2=0:=fun x hx=>by
  obtain ⟨j,hj,rfl⟩:=List.getElem_of_mem hx
  exact ho j _ hj (gE hj)
 rw [sJ ts o c n g t ks hall]
 clear hrec hi hlt ho hall
 generalize hK:qJ ts ks ks.length=K at *
 clear hK
 have htk:(aD K).take ks.length=aD K:=List.take_of_length_le (by simp [hKl])
 simp
 (repeat' first|contradiction|exact .ok|apply And.intro|intro _|(apply gc<;>simp+contextual))
 refine aP hkn ?_
 cases hio:bR o with
 | false =>
   rw [show qI ts o c n g t K=(0,1) from by unfold qI; rw [hio]; rfl]
   simp [NN]
   all_goals exact gz
 | true =>
 rw [show vS o=bQ o from by simp [vS,hio]]
 simp [NN]
 (repeat' first|contradiction|exact .ok|apply And.intro|intro _|(apply gc<;>simp+contextual))
 refine aP hcl ?_
 cases hcg:hY o c n g t with
 | false =>
   rw [show qI ts o c n g t K=(0,1) from by unfold qI; rw [hio,hcg]; rfl]
   simp
   all_goals exact gz
 | true =>
 cases hcn:bN o ks.length with
 | false =>
   rw [show qI ts o c n g t K=(0,9) from by unfold qI; rw [hio,hcg,hKl,hcn]; rfl]
   simp
   all_goals exact gz
 | true =>
 have hE:qI ts o c n g t K=if o=5∧¬ (0≤g∧g<ts.length) then (0,3) else dK ts o c g K:=by unfold qI; rw [hio,hcg,hKl,hcn]; rfl
 rw [hE]
 clear hE
 obtain ⟨f4,f6,fo,f5⟩:=KY hcn
 have hft:=eG (aHF (bQ o).1 (bQ o).2.1 (bQ o).2.2.1 (bQ o).2.2.2 K (by omega) (by rw [hKl]; exact f4) (by rw [hKl]; exact f6))
 by_cases ho5:o=5
 ·subst ho5
  by_cases g0:g<0
  ·rw [if_pos ⟨rfl,by omega⟩]
   simp [g0]
   (repeat' first|contradiction|exact .ok|apply And.intro|intro _|(apply gc<;>simp+contextual[g0]))
  by_cases g1:(ts.length:Int)≤g
  ·rw [if_pos ⟨rfl,by omega⟩]
   simp [g0,g1]
   (repeat' first|contradiction|exact .ok|apply And.intro|intro _|(apply gc<;>simp+contextual[g0,g1]))
  rw [if_neg (fun h=>h.2 ⟨by omega,by omega⟩)]
  obtain ⟨q,rfl⟩:∃ q:Nat,g=q:=⟨g.toNat,by omega⟩
  have hq:q<ts.length:=by omega
  obtain ⟨k,hkq⟩:∃ k,k=ts[q]:=⟨_,rfl⟩
  have hgk:=eE hq
  have hgk2:∀ h,ts[q]'h=k:=fun _=>hkq.symm
  rw [← hkq] at hgk
  have hfo:fL (bQ 5).2.2.1 K=true:=by unfold fL; simp [bQ,ops]
  rw [hfo] at hft
  have hN:dK ts 5 c q K=if 1≤k∧k≤3 then (k,0) else (0,4):=by simp [dK,hq,← hkq]
  rw [hN]
  by_cases hk3:1≤k∧k≤3
  ·have hty:(k==1||(k==2||k==3))=true:=by simp; omega
   rw [if_pos hk3]
   simp [g0,g1,hq,hgk2]
   (repeat' first|contradiction|exact .ok|apply And.intro|intro _|(apply gc<;>simp+contextual[g0,g1,hq,hgk,hgk2]))
   refine aA (eG (CT k)) (by simp) ?_
   simp [hty]
   (repeat' first|contradiction|exact .ok|apply And.intro|intro _|(apply gc<;>simp+contextual))
   refine aA hft (by simp [htk,hKl]) ?_
   simp [hq,hgk2,hKl]
   all_goals exact gz
  ·have hty:(k==1||(k==2||k==3))=false:=by
    rw [Bool.eq_false_iff]
    intro h
    simp at h
    omega
   rw [if_neg hk3]
   simp [g0,g1,hq,hgk2]
   (repeat' first|contradiction|exact .ok|apply And.intro|intro _|(apply gc<;>simp+contextual[g0,g1,hq,hgk,hgk2]))
   refine aA (eG (CT k)) (by simp) ?_
   simp [hty]
   all_goals exact gz
 rw [if_neg (fun h=>ho5 h.1)]
 cases hfit:fL (bQ o).2.2.1 K with
 | false =>
   rw [hfit] at hft
   rw [show dK ts o c g K=(0,4) from by simp [dK,ho5,hfit]]
   simp [ho5]
   (repeat' first|contradiction|exact .ok|apply And.intro|intro _|(apply gc<;>simp+contextual[ho5]))
   refine aA hft (by simp [htk,hKl]) ?_
   simp
   all_goals exact gz
 | true =>
   rw [hfit] at hft
   by_cases ho1:o=1
   ·subst ho1
    rw [show dK ts 1 c g K=(c,0) from by simp [dK,iW,hfit]]
    simp
    (repeat' first|contradiction|exact .ok|apply And.intro|intro _|(apply gc<;>simp+contextual))
    refine aA hft (by simp [htk,hKl]) ?_
    simp [hKl]
    all_goals exact gz
   by_cases hw0:(bQ o).2.2.2=0
   ·have hkp:=fo ho1 ho5 hw0
    have hwi:=wI (n:=(ks.length:Int) - 1)
    obtain ⟨m,hm⟩:∃ m:Nat,ks.length=m+1:=⟨ks.length - 1,by omega⟩
    have hmK:m<K.length:=by omega
    obtain ⟨k,hkq⟩:∃ k,k=K[m]:=⟨_,rfl⟩
    have hgk:=eE hmK
    have hgk2:∀ h,K[m]'h=k:=fun _=>hkq.symm
    rw [← hkq] at hgk
    have hwi2:IntKind.i64.wrap ((ks.length:Int) - 1)=(m:Int):=by rw [hwi]; omega
    have hKm:K.length - 1=m:=by omega
    rw [show dK ts o c g K=(k,0) from by simp [dK,iW,ho5,ho1,hw0,hfit,hKm,hmK,← hkq]]
    simp [ho5]
    (repeat' first|contradiction|exact .ok|apply And.intro|intro _|(apply gc<;>simp+contextual[ho5,ho1]))
    refine aA hft (by simp [htk,hKl]) ?_
    have hml:m<ks.length:=by omega
    simp [ho5,ho1,hw0,hwi2,hml,hgk2,hKl]
    (repeat' first|contradiction|exact .ok|apply And.intro|intro _|(apply gc<;>simp+contextual[ho5,ho1,hw0,hwi2]))
   ·rw [show dK ts o c g K=((bQ o).2.2.2,0) from by simp [dK,iW,ho5,ho1,hw0,hfit]]
    simp [ho5]
    (repeat' first|contradiction|exact .ok|apply And.intro|intro _|(apply gc<;>simp+contextual[ho5,ho1]))
    refine aA hft (by simp [htk,hKl]) ?_
    simp [ho5,ho1,hw0,hKl]
    (repeat' first|contradiction|exact .ok|apply And.intro|intro _|(apply gc<;>simp+contextual[ho5,ho1,hw0]))
end Go.Proofs.Tryz
