import Derived.Test.YtkkbepgccddjoaaGreatDoorCln
import Derived.Test.YtkkbepgccddjoaaGreatDoorAClo
import Derived.Test.YtkkbepgccddjoaaGreatDoorATgt
set_option linter.all false
namespace Go.Proofs.Tryz
open Go.Ab
set_option maxRecDepth 100000
set_option maxHeartbeats 8000000
def endT (ts:List Int) (o c n g:Int) (t:List UInt8) (kts:List Int):Int×Int :=
 if (isOp o&&clnG o c n g t)=false then (0,1) else if cntd o kts.length=false then (0,9)
 else if o=5∧¬ (0≤g∧g<ts.length) then (0,3) else nodeTy ts o c g kts
mutual
def tyA (ts:List Int):Ex→Int×Int
 | .mk o c n t g ks=>if (tysA ts ks).2=0 then endT ts o c n g t (tysA ts ks).1 else (0,(tysA ts ks).2)
def tysA (ts:List Int):List Ex→List Int×Int
 | []=>([],0)
 | x::xs=>if (tyA ts x).2=0 then (if (tysA ts xs).2=0 then ((tyA ts x).1::(tysA ts xs).1,0) else ([],(tysA ts xs).2)) else ([],(tyA ts x).2)
end
theorem tysA_each (ts:List Int):∀ l:List Ex,tysA ts l=eachG (tyA ts) l
 | []=>by rw [tysA,eachG]
 | x::xs=>by rw [tysA,eachG,tysA_each ts xs]
theorem fit_cases {o:Int} (h1:6≤o) (h2:o≤28) {k:Nat} (h:cntd o k=true):1≤k∧((opOf o).2.2.1=6→k=3):=by
 rcases op_cases h1 h2 with rfl | rfl | rfl | rfl | rfl | rfl | rfl | rfl | rfl | rfl | rfl | rfl | rfl | rfl | rfl | rfl | rfl | rfl | rfl | rfl | rfl | rfl | rfl <;> simp [cntd,isOp,opOf,ops] at h <;> simp [opOf,ops] <;> omega
theorem isOp_in {o:Int} (h:isOp o=true):1≤o∧o≤28:=by
 unfold isOp at h
 simpa using h
theorem fit_all {o:Int} {k:Nat} (h:cntd o k=true):((opOf o).2.2.1=4→1≤k)∧((opOf o).2.2.1=6→k=3)∧(o ≠ 1→o ≠ 5→(opOf o).2.2.2=0→1≤k)∧(o≤5→k=0):=by
 have hio:isOp o=true:=by
  unfold cntd at h
  rw [Bool.and_eq_true] at h
  exact h.1
 obtain ⟨a,b⟩:=isOp_in hio
 by_cases h6:6≤o
 ·obtain ⟨c,d⟩:=fit_cases h6 b h
  exact ⟨fun _=>c,d,fun _ _ _=>c,fun e=>by omega⟩
 ·rcases (by omega:o=1∨o=2∨o=3∨o=4∨o=5) with rfl | rfl | rfl | rfl | rfl <;> simp [cntd,isOp,opOf,ops] at h ⊢ <;> exact h
def ktsA (ts:List Int) (ks:List Ex) (i:Nat):List Int:=(ks.take i).map fun z=>(tyA ts z).1
theorem ktsA_len {ts:List Int} {ks:List Ex} {i:Nat} (h:i≤ks.length):(ktsA ts ks i).length=i:=by unfold ktsA; simp; omega
theorem ktsA_succ {ts:List Int} {ks:List Ex} {i:Nat} (h:i<ks.length):ktsA ts ks (i+1)=ktsA ts ks i++[(tyA ts ks[i]).1]:=by unfold ktsA; rw [take_snoc h,List.map_append]; rfl
theorem ktsA_full (ts:List Int) (ks:List Ex):ktsA ts ks ks.length=ks.map fun z=>(tyA ts z).1:=by simp [ktsA]
theorem ints_snoc2 (l:List Int) (z:Int):ints (l++[z])=ints l++[[.int .i64 z]]:=by simp [ints]
theorem tyA_node (ts:List Int) (o c n g:Int) (t:List UInt8) (ks:List Ex) (h:∀ x∈ks,(tyA ts x).2=0):tyA ts (.mk o c n t g ks)=endT ts o c n g t (ktsA ts ks ks.length):=by
 rw [tyA,tysA_each,eachG_ok h,if_pos rfl,ktsA_full]
theorem tyA_bad (ts:List Int) (o c n g:Int) (t:List UInt8) (ks:List Ex) {i:Nat} {x:Ex} (ho:∀ j y,j<i→ks[j]?=some y→(tyA ts y).2=0) (hx:ks[i]?=some x) (h:(tyA ts x).2 ≠ 0):tyA ts (.mk o c n t g ks)=(0,(tyA ts x).2):=by
 rw [tyA,tysA_each,eachG_bad ho hx h,if_neg h]
theorem x_nodeA (ts:List Int) (hts:ts.length≤1000) (o c n g:Int) (t:List UInt8) (ks:List Ex) (hk:ks.length≤12)
  (hrec:∀ z∈ks,Cf Es 132 [.d (.sl (ints ts)),z.a] [] (.tup [.d (.int .i64 (tyA ts z).1),.d (.int .i64 (tyA ts z).2)]) []) :
  Cf Es 132 [.d (.sl (ints ts)),(Ex.mk o c n t g ks).a] [] (.tup [.d (.int .i64 (tyA ts (.mk o c n t g ks)).1),.d (.int .i64 (tyA ts (.mk o c n t g ks)).2)]) []:=by
 refine cf_intro mixs (fn:=Tryz.f132) (by kernel_rfl) rfl (by kernel_rfl) (by decide) (by simp) ?_
 have hkn:=upo (e_known o c n t g ks)
 have hcl:=ups (cl_any o c n g t ks)
 rw [Ex.a] at hkn hcl
 simp [Ex.a,Ex.c,kidsC_map] at hkn hcl ⊢
 (repeat' (first|contradiction|exact .ok|apply And.intro|intro _|(refine gc (fun h=>?_) (fun h=>?_)<;>(have h':=h;(try simp at h');first|done|simp[h,h']|simp))))
 refine aloopT mixs (by decide) (fun i:Nat=>{ s:=mkS [(0,.d (.sl (ints ts))),(3,.ptr 3 0 0),(6,.ref 900 0 i 1),(15,.d (.sl (ks.map Ex.c))),(16,.d (.int .i64 ks.length)),(17,.d (.int .i64 i))],b:=mkB [(3,3,.var [.d (.int .i64 o),.d (.int .i64 c),.d (.int .i64 n),.d (.str t),.d (.int .i64 g),.d (.sl (ks.map Ex.c))]),(900,900,.arr 3 1 (ints (ktsA ts ks i)) false)] })
  (fun i=>i≤ks.length∧∀ j z,j<i→ks[j]?=some z→(tyA ts z).2=0) (fun i=>ks.length - i) 0 (by simp)
  (sub_mkn 6 900 3 1 (by simp) (by simp) (by decide) (by decide) _ [(3,3,_),(900,900,_)] ⟨by simp,by simp,by simp [renOf,Blk.live,ktsA,ints],by simp⟩ (by simp [renOf])) ?_
 rintro i ⟨hi,ho⟩
 have hKl:=ktsA_len (ts:=ts) hi
 by_cases hlt:i<ks.length
 ·have hg:ks[i]?=some ks[i]:=List.getElem?_eq_getElem hlt
  obtain ⟨z,hz⟩:∃ z,z=ks[i]:=⟨_,rfl⟩
  have hzm:z∈ks:=by rw [hz]; exact List.getElem_mem hlt
  have hr:=hrec z hzm
  have hgi:∀ h,ks[i]'h=z:=fun _=>hz.symm
  have hnx:=ktsA_succ (ts:=ts) hlt
  have hw:=wrap_in (n:=(i:Int)+1) (by omega) (by omega)
  rw [← hz] at hg hnx
  by_cases he:(tyA ts z).2=0
  ·have hok:∀ j w,j<i+1→ks[j]?=some w→(tyA ts w).2=0:=fun j w hj hjw=>by
    rcases Nat.lt_or_ge j i with c | c
    ·exact ho j w c hjw
    ·have:j=i:=by omega
     subst this
     rw [hg] at hjw
     cases hjw
     exact he
   rw [he] at hr
   generalize (tyA ts z).1=kk at hr hnx
   generalize hK:ktsA ts ks i=K at *
   have htk:(ints K).take i=ints K:=List.take_of_length_le (by simp [hKl])
   clear hkn hcl
   rcases z with ⟨zo,zc,zn,zt,zg,zk⟩
   simp [hlt,hg,hgi,Ex.c]
   (repeat' (first|contradiction|exact .ok|apply And.intro|intro _|(refine gc (fun h=>?_) (fun h=>?_)<;>(have h':=h;(try simp at h');first|done|simp[h,h']|simp))))
   refine acallT_plain hr (by simp [Ex.a,Ex.c]) ?_
   simp [hKl,htk,szs i (by omega) 8 (by decide),szs (i+1) (by omega) 8 (by decide)]
   (repeat' (first|contradiction|exact .ok|apply And.intro|intro _|(refine gc (fun h=>?_) (fun h=>?_)<;>(have h':=h;(try simp at h');first|done|simp[h,h']|simp))))
   refine ⟨i+1,⟨hlt,hok⟩,?_,by simp; omega⟩
   exact sub_mk _ [(3,3,_),(900,33,_)] ⟨by simp,by simp,by simp [renOf,Blk.live,hnx,ints_snoc2],by simp⟩ (by simp [renOf,hw])
  ·rw [tyA_bad ts o c n g t ks ho hg he]
   generalize (tyA ts z).2=ee at *
   generalize (tyA ts z).1=kk at hr
   clear hkn hcl
   rcases z with ⟨zo,zc,zn,zt,zg,zk⟩
   simp [hlt,hg,hgi,Ex.c]
   (repeat' (first|contradiction|exact .ok|apply And.intro|intro _|(refine gc (fun h=>?_) (fun h=>?_)<;>(have h':=h;(try simp at h');first|done|simp[h,h']|simp))))
   refine acallT_plain hr (by simp [Ex.a,Ex.c]) ?_
   simp [he]
   (repeat' (first|contradiction|exact .ok|apply And.intro|intro _|(refine gc (fun h=>?_) (fun h=>?_)<;>(have h':=h;(try simp at h');first|done|simp[h,h',he]|simp[he]))))
 obtain rfl:i=ks.length:=by omega
 have hall:∀ x∈ks,(tyA ts x).2=0:=fun x hx=>by
  obtain ⟨j,hj,rfl⟩:=List.getElem_of_mem hx
  exact ho j _ hj (List.getElem?_eq_getElem hj)
 rw [tyA_node ts o c n g t ks hall]
 clear hrec hi hlt ho hall
 generalize hK:ktsA ts ks ks.length=K at *
 clear hK
 have htk:(ints K).take ks.length=ints K:=List.take_of_length_le (by simp [hKl])
 simp
 (repeat' (first|contradiction|exact .ok|apply And.intro|intro _|(refine gc (fun h=>?_) (fun h=>?_)<;>(have h':=h;(try simp at h');first|done|simp[h,h']|simp))))
 refine acallT_plain hkn (by simp) ?_
 cases hio:isOp o with
 | false =>
   rw [show endT ts o c n g t K=(0,1) from by unfold endT; rw [hio]; rfl]
   simp [opA]
   all_goals exact gz
 | true =>
 rw [show findO o=opOf o from by simp [findO,hio]]
 simp [opA]
 (repeat' (first|contradiction|exact .ok|apply And.intro|intro _|(refine gc (fun h=>?_) (fun h=>?_)<;>(have h':=h;(try simp at h');first|done|simp[h,h']|simp))))
 refine acallT_plain hcl (by simp) ?_
 cases hcg:clnG o c n g t with
 | false =>
   rw [show endT ts o c n g t K=(0,1) from by unfold endT; rw [hio,hcg]; rfl]
   simp
   all_goals exact gz
 | true =>
 cases hcn:cntd o ks.length with
 | false =>
   rw [show endT ts o c n g t K=(0,9) from by unfold endT; rw [hio,hcg,hKl,hcn]; rfl]
   simp
   all_goals exact gz
 | true =>
 have hE:endT ts o c n g t K=if o=5∧¬ (0≤g∧g<ts.length) then (0,3) else nodeTy ts o c g K:=by unfold endT; rw [hio,hcg,hKl,hcn]; rfl
 rw [hE]
 clear hE
 obtain ⟨f4,f6,fo,f5⟩:=fit_all hcn
 have hft:=ups (e_fit (opOf o).1 (opOf o).2.1 (opOf o).2.2.1 (opOf o).2.2.2 K (by omega) (by rw [hKl]; exact f4) (by rw [hKl]; exact f6))
 by_cases ho5:o=5
 ·subst ho5
  by_cases g0:g<0
  ·rw [if_pos ⟨rfl,by omega⟩]
   simp [g0]
   (repeat' (first|contradiction|exact .ok|apply And.intro|intro _|(refine gc (fun h=>?_) (fun h=>?_)<;>(have h':=h;(try simp at h');first|done|simp[h,h',g0]|simp[g0]))))
  by_cases g1:(ts.length:Int)≤g
  ·rw [if_pos ⟨rfl,by omega⟩]
   simp [g0,g1]
   (repeat' (first|contradiction|exact .ok|apply And.intro|intro _|(refine gc (fun h=>?_) (fun h=>?_)<;>(have h':=h;(try simp at h');first|done|simp[h,h',g0,g1]|simp[g0,g1]))))
  rw [if_neg (fun h=>h.2 ⟨by omega,by omega⟩)]
  obtain ⟨q,rfl⟩:∃ q:Nat,g=q:=⟨g.toNat,by omega⟩
  have hq:q<ts.length:=by omega
  obtain ⟨k,hkq⟩:∃ k,k=ts[q]:=⟨_,rfl⟩
  have hgk:=ints_get hq
  have hgk2:∀ h,ts[q]'h=k:=fun _=>hkq.symm
  rw [← hkq] at hgk
  have hfo:fitOk (opOf 5).2.2.1 K=true:=by unfold fitOk; simp [opOf,ops]
  rw [hfo] at hft
  have hN:nodeTy ts 5 c q K=if 1≤k∧k≤3 then (k,0) else (0,4):=by simp [nodeTy,hq,← hkq]
  rw [hN]
  by_cases hk3:1≤k∧k≤3
  ·have hty:(k==1||(k==2||k==3))=true:=by simp; omega
   rw [if_pos hk3]
   simp [g0,g1,hq,hgk,hgk2]
   (repeat' (first|contradiction|exact .ok|apply And.intro|intro _|(refine gc (fun h=>?_) (fun h=>?_)<;>(have h':=h;(try simp at h');first|done|simp[h,h',g0,g1,hq,hgk,hgk2]|simp[g0,g1,hq,hgk,hgk2]))))
   refine acallT_plain (ups (e_isType k)) (by simp) ?_
   simp [hty]
   (repeat' (first|contradiction|exact .ok|apply And.intro|intro _|(refine gc (fun h=>?_) (fun h=>?_)<;>(have h':=h;(try simp at h');first|done|simp[h,h']|simp))))
   refine acallT_plain hft (by simp [htk,hKl]) ?_
   simp [hq,hgk,hgk2,hKl]
   all_goals exact gz
  ·have hty:(k==1||(k==2||k==3))=false:=by
    rw [Bool.eq_false_iff]
    intro h
    simp at h
    omega
   rw [if_neg hk3]
   simp [g0,g1,hq,hgk,hgk2]
   (repeat' (first|contradiction|exact .ok|apply And.intro|intro _|(refine gc (fun h=>?_) (fun h=>?_)<;>(have h':=h;(try simp at h');first|done|simp[h,h',g0,g1,hq,hgk,hgk2]|simp[g0,g1,hq,hgk,hgk2]))))
   refine acallT_plain (ups (e_isType k)) (by simp) ?_
   simp [hty]
   all_goals exact gz
 rw [if_neg (fun h=>ho5 h.1)]
 cases hfit:fitOk (opOf o).2.2.1 K with
 | false =>
   rw [hfit] at hft
   rw [show nodeTy ts o c g K=(0,4) from by simp [nodeTy,ho5,hfit]]
   simp [ho5]
   (repeat' (first|contradiction|exact .ok|apply And.intro|intro _|(refine gc (fun h=>?_) (fun h=>?_)<;>(have h':=h;(try simp at h');first|done|simp[h,h',ho5]|simp[ho5]))))
   refine acallT_plain hft (by simp [htk,hKl]) ?_
   simp
   all_goals exact gz
 | true =>
   rw [hfit] at hft
   by_cases ho1:o=1
   ·subst ho1
    rw [show nodeTy ts 1 c g K=(c,0) from by simp [nodeTy,tyRes,hfit]]
    simp
    (repeat' (first|contradiction|exact .ok|apply And.intro|intro _|(refine gc (fun h=>?_) (fun h=>?_)<;>(have h':=h;(try simp at h');first|done|simp[h,h']|simp))))
    refine acallT_plain hft (by simp [htk,hKl]) ?_
    simp [hKl]
    all_goals exact gz
   by_cases hw0:(opOf o).2.2.2=0
   ·have hkp:=fo ho1 ho5 hw0
    have hwi:=wrap_in (n:=(ks.length:Int) - 1) (by omega) (by omega)
    obtain ⟨m,hm⟩:∃ m:Nat,ks.length=m+1:=⟨ks.length - 1,by omega⟩
    have hmK:m<K.length:=by omega
    obtain ⟨k,hkq⟩:∃ k,k=K[m]:=⟨_,rfl⟩
    have hgk:=ints_get hmK
    have hgk2:∀ h,K[m]'h=k:=fun _=>hkq.symm
    rw [← hkq] at hgk
    have hwi2:IntKind.i64.wrap ((ks.length:Int) - 1)=(m:Int):=by rw [hwi]; omega
    have hKm:K.length - 1=m:=by omega
    rw [show nodeTy ts o c g K=(k,0) from by simp [nodeTy,tyRes,ho5,ho1,hw0,hfit,hKm,hmK,← hkq]]
    simp [ho5,ho1]
    (repeat' (first|contradiction|exact .ok|apply And.intro|intro _|(refine gc (fun h=>?_) (fun h=>?_)<;>(have h':=h;(try simp at h');first|done|simp[h,h',ho5,ho1]|simp[ho5,ho1]))))
    refine acallT_plain hft (by simp [htk,hKl]) ?_
    have hml:m<ks.length:=by omega
    simp [ho5,ho1,hw0,hwi2,hml,hmK,hgk,hgk2,hKl]
    (repeat' (first|contradiction|exact .ok|apply And.intro|intro _|(refine gc (fun h=>?_) (fun h=>?_)<;>(have h':=h;(try simp at h');first|done|simp[h,h',ho5,ho1,hw0,hwi2]|simp[ho5,ho1,hw0,hwi2]))))
   ·rw [show nodeTy ts o c g K=((opOf o).2.2.2,0) from by simp [nodeTy,tyRes,ho5,ho1,hw0,hfit]]
    simp [ho5,ho1]
    (repeat' (first|contradiction|exact .ok|apply And.intro|intro _|(refine gc (fun h=>?_) (fun h=>?_)<;>(have h':=h;(try simp at h');first|done|simp[h,h',ho5,ho1]|simp[ho5,ho1]))))
    refine acallT_plain hft (by simp [htk,hKl]) ?_
    simp [ho5,ho1,hw0,hKl]
    (repeat' (first|contradiction|exact .ok|apply And.intro|intro _|(refine gc (fun h=>?_) (fun h=>?_)<;>(have h':=h;(try simp at h');first|done|simp[h,h',ho5,ho1,hw0]|simp[ho5,ho1,hw0]))))
end Go.Proofs.Tryz
