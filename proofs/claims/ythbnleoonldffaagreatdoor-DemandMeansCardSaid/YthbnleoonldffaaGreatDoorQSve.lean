import Derived.Test.YthbnleoonldffaaGreatDoorQCln
import Derived.Test.YthbnleoonldffaaGreatDoorQEnvR
import Derived.Test.YthbnleoonldffaaGreatDoorQSky
import Derived.Test.YthbnleoonldffaaGreatDoorQSvd
set_option linter.all false
namespace Go.Proofs.Tryz
open Go.Ab
set_option maxRecDepth 100000
set_option maxHeartbeats 8000000
def oX (ts:List Int) (o c n g:Int) (t:List UInt8) (kts:List Int):Int×Int :=
 if (bL o&&gJ o c n g t)=false then (0,1) else if bI o kts.length=false then (0,9)
 else if o=5∧¬ (0≤g∧g<ts.length) then (0,3) else dG ts o c g kts
mutual
def gO (ts:List Int):Ex→Int×Int
 | .mk o c n t g ks=>if (HM ts ks).2=0 then oX ts o c n g t (HM ts ks).1 else (0,(HM ts ks).2)
def HM (ts:List Int):List Ex→List Int×Int
 | []=>([],0)
 | x::xs=>if (gO ts x).2=0 then (if (HM ts xs).2=0 then ((gO ts x).1::(HM ts xs).1,0) else ([],(HM ts xs).2)) else ([],(gO ts x).2)
end
theorem wI (ts:List Int):∀ l:List Ex,HM ts l=jQ (gO ts) l
 | []=>by rw [HM,jQ]
 | x::xs=>by rw [HM,jQ,wI ts xs]
theorem VN {o:Int} (h1:6≤o) (h2:o≤28) {k:Nat} (h:bI o k=true):1≤k∧((bK o).2.2.1=6→k=3):=by
 rcases uQ h1 h2 with rfl | rfl | rfl | rfl | rfl | rfl | rfl | rfl | rfl | rfl | rfl | rfl | rfl | rfl | rfl | rfl | rfl | rfl | rfl | rfl | rfl | rfl | rfl <;> simp [bI,bL,bK,ops] at h <;> simp [bK,ops] <;> omega
theorem HN {o:Int} (h:bL o=true):1≤o∧o≤28:=by
 unfold bL at h
 simpa using h
theorem HO {o:Int} {k:Nat} (h:bI o k=true):((bK o).2.2.1=4→1≤k)∧((bK o).2.2.1=6→k=3)∧(o ≠ 1→o ≠ 5→(bK o).2.2.2=0→1≤k)∧(o≤5→k=0):=by
 have hio:bL o=true:=by
  unfold bI at h
  rw [Bool.and_eq_true] at h
  exact h.1
 obtain ⟨a,b⟩:=HN hio
 by_cases h6:6≤o
 ·obtain ⟨c,d⟩:=VN h6 b h
  exact ⟨fun _=>c,d,fun _ _ _=>c,fun e=>by omega⟩
 ·rcases (by omega:o=1∨o=2∨o=3∨o=4∨o=5) with rfl | rfl | rfl | rfl | rfl <;> simp [bI,bL,bK,ops] at h ⊢ <;> exact h
def oY (ts:List Int) (ks:List Ex) (i:Nat):List Int:=(ks.take i).map fun z=>(gO ts z).1
theorem LV {ts:List Int} {ks:List Ex} {i:Nat} (h:i≤ks.length):(oY ts ks i).length=i:=by unfold oY; simp; omega
theorem EQ {ts:List Int} {ks:List Ex} {i:Nat} (h:i<ks.length):oY ts ks (i+1)=oY ts ks i++[(gO ts ks[i]).1]:=by unfold oY; rw [bV h,List.map_append]; rfl
theorem nX (ts:List Int) (ks:List Ex):oY ts ks ks.length=ks.map fun z=>(gO ts z).1:=by simp [oY]
theorem BR (l:List Int) (z:Int):aG (l++[z])=aG l++[[.int .i64 z]]:=by simp [aG]
theorem qR (ts:List Int) (o c n g:Int) (t:List UInt8) (ks:List Ex) (h:∀ x∈ks,(gO ts x).2=0):gO ts (.mk o c n t g ks)=oX ts o c n g t (oY ts ks ks.length):=by
 rw [gO,wI,LW h,if_pos rfl,nX]
theorem HP (ts:List Int) (o c n g:Int) (t:List UInt8) (ks:List Ex) {i:Nat} {x:Ex} (ho:∀ j y,j<i→ks[j]?=some y→(gO ts y).2=0) (hx:ks[i]?=some x) (h:(gO ts x).2 ≠ 0):gO ts (.mk o c n t g ks)=(0,(gO ts x).2):=by
 rw [gO,wI,ER ho hx h,if_neg h]
theorem aCT (ts:List Int) (hts:ts.length≤1000) (o c n g:Int) (t:List UInt8) (ks:List Ex) (hk:ks.length≤12)
  (hrec:∀ z∈ks,Cf Es 187 [.d (.sl (aG ts)),z.a] [] (.tup [.d (.int .i64 (gO ts z).1),.d (.int .i64 (gO ts z).2)]) []) :
  Cf Es 187 [.d (.sl (aG ts)),(Ex.mk o c n t g ks).a] [] (.tup [.d (.int .i64 (gO ts (.mk o c n t g ks)).1),.d (.int .i64 (gO ts (.mk o c n t g ks)).2)]) []:=by
 refine aD cF (fn:=Tryz.f187) (by kernel_rfl) rfl (by kernel_rfl) (by decide) (by simp) ?_
 have hkn:=upo (QV o c n t g ks)
 have hcl:=gL (aDp o c n g t ks)
 rw [Ex.a] at hkn hcl
 simp [Ex.a,Ex.c,aC] at hkn hcl ⊢
 (repeat' first|contradiction|exact .ok|apply And.intro|intro _|(apply gc<;>simp+contextual))
 refine aL cF (by decide) (fun i:Nat=>{ s:=cG [(0,.d (.sl (aG ts))),(3,.ptr 3 0 0),(6,.ref 900 0 i 1),(15,.d (.sl (ks.map Ex.c))),(16,.d (.int .i64 ks.length)),(17,.d (.int .i64 i))],b:=cE [(3,3,.var [.d (.int .i64 o),.d (.int .i64 c),.d (.int .i64 n),.d (.str t),.d (.int .i64 g),.d (.sl (ks.map Ex.c))]),(900,900,.arr 3 1 (aG (oY ts ks i)) false)] })
  (fun i=>i≤ks.length∧∀ j z,j<i→ks[j]?=some z→(gO ts z).2=0) (fun i=>ks.length - i) 0 (by simp)
  (dW 6 900 3 1 (by simp) (by simp) (by decide) (by decide) _ [(3,3,_),(900,900,_)] ⟨by simp,by simp,by simp [aB,Blk.live,oY,aG],by simp⟩ (by simp [aB])) ?_
 rintro i ⟨hi,ho⟩
 have hKl:=LV (ts:=ts) hi
 by_cases hlt:i<ks.length
 ·have hg:ks[i]?=some ks[i]:=List.getElem?_eq_getElem hlt
  obtain ⟨z,hz⟩:∃ z,z=ks[i]:=⟨_,rfl⟩
  have hzm:z∈ks:=by rw [hz]; exact List.getElem_mem hlt
  have hr:=hrec z hzm
  have hgi:∀ h,ks[i]'h=z:=fun _=>hz.symm
  have hnx:=EQ (ts:=ts) hlt
  have hw:=aH (n:=(i:Int)+1) (by omega) (by omega)
  rw [← hz] at hg hnx
  by_cases he:(gO ts z).2=0
  ·have hok:∀ j w,j<i+1→ks[j]?=some w→(gO ts w).2=0:=fun j w hj hjw=>by
    rcases Nat.lt_or_ge j i with c | c
    ·exact ho j w c hjw
    ·have:j=i:=by omega
     subst this
     rw [hg] at hjw
     cases hjw
     exact he
   rw [he] at hr
   generalize (gO ts z).1=kk at hr hnx
   generalize hK:oY ts ks i=K at *
   have htk:(aG K).take i=aG K:=List.take_of_length_le (by simp [hKl])
   clear hkn hcl
   rcases z with ⟨zo,zc,zn,zt,zg,zk⟩
   simp [hlt,hg,hgi,Ex.c]
   (repeat' first|contradiction|exact .ok|apply And.intro|intro _|(apply gc<;>simp+contextual))
   refine aA hr (by simp [Ex.a,Ex.c]) ?_
   simp [hKl,htk,eI i (by omega) 8 (by decide),eI (i+1) (by omega) 8 (by decide)]
   (repeat' first|contradiction|exact .ok|apply And.intro|intro _|(apply gc<;>simp+contextual))
   refine ⟨i+1,⟨hlt,hok⟩,?_,by simp; omega⟩
   exact aE _ [(3,3,_),(900,33,_)] ⟨by simp,by simp,by simp [aB,Blk.live,hnx,BR],by simp⟩ (by simp [aB,hw])
  ·rw [HP ts o c n g t ks ho hg he]
   generalize (gO ts z).2=ee at *
   generalize (gO ts z).1=kk at hr
   clear hkn hcl
   rcases z with ⟨zo,zc,zn,zt,zg,zk⟩
   simp [hlt,hg,hgi,Ex.c]
   (repeat' first|contradiction|exact .ok|apply And.intro|intro _|(apply gc<;>simp+contextual))
   refine aA hr (by simp [Ex.a,Ex.c]) ?_
   simp [he]
   (repeat' first|contradiction|exact .ok|apply And.intro|intro _|(apply gc<;>simp+contextual[he]))
 obtain rfl:i=ks.length:=by omega
 have hall:∀ x∈ks,(gO ts x).2=0:=fun x hx=>by
  obtain ⟨j,hj,rfl⟩:=List.getElem_of_mem hx
  exact ho j _ hj (List.getElem?_eq_getElem hj)
 rw [qR ts o c n g t ks hall]
 clear hrec hi hlt ho hall
 generalize hK:oY ts ks ks.length=K at *
 clear hK
 have htk:(aG K).take ks.length=aG K:=List.take_of_length_le (by simp [hKl])
 simp
 (repeat' first|contradiction|exact .ok|apply And.intro|intro _|(apply gc<;>simp+contextual))
 refine aA hkn (by simp) ?_
 cases hio:bL o with
 | false =>
   rw [show oX ts o c n g t K=(0,1) from by unfold oX; rw [hio]; rfl]
   simp [JY]
   all_goals exact gz
 | true =>
 rw [show rV o=bK o from by simp [rV,hio]]
 simp [JY]
 (repeat' first|contradiction|exact .ok|apply And.intro|intro _|(apply gc<;>simp+contextual))
 refine aA hcl (by simp) ?_
 cases hcg:gJ o c n g t with
 | false =>
   rw [show oX ts o c n g t K=(0,1) from by unfold oX; rw [hio,hcg]; rfl]
   simp
   all_goals exact gz
 | true =>
 cases hcn:bI o ks.length with
 | false =>
   rw [show oX ts o c n g t K=(0,9) from by unfold oX; rw [hio,hcg,hKl,hcn]; rfl]
   simp
   all_goals exact gz
 | true =>
 have hE:oX ts o c n g t K=if o=5∧¬ (0≤g∧g<ts.length) then (0,3) else dG ts o c g K:=by unfold oX; rw [hio,hcg,hKl,hcn]; rfl
 rw [hE]
 clear hE
 obtain ⟨f4,f6,fo,f5⟩:=HO hcn
 have hft:=gL (aFh (bK o).1 (bK o).2.1 (bK o).2.2.1 (bK o).2.2.2 K (by omega) (by rw [hKl]; exact f4) (by rw [hKl]; exact f6))
 by_cases ho5:o=5
 ·subst ho5
  by_cases g0:g<0
  ·rw [if_pos ⟨rfl,by omega⟩]
   simp [g0]
   (repeat' first|contradiction|exact .ok|apply And.intro|intro _|(apply gc<;>simp+contextual[g0]))
  by_cases g1:(ts.length:Int)≤g
  ·rw [if_pos ⟨rfl,by omega⟩]
   simp [g0,g1]
   (repeat' first|contradiction|exact .ok|apply And.intro|intro _|(apply gc<;>simp+contextual[g0,g1]))
  rw [if_neg (fun h=>h.2 ⟨by omega,by omega⟩)]
  obtain ⟨q,rfl⟩:∃ q:Nat,g=q:=⟨g.toNat,by omega⟩
  have hq:q<ts.length:=by omega
  obtain ⟨k,hkq⟩:∃ k,k=ts[q]:=⟨_,rfl⟩
  have hgk:=dS hq
  have hgk2:∀ h,ts[q]'h=k:=fun _=>hkq.symm
  rw [← hkq] at hgk
  have hfo:fC (bK 5).2.2.1 K=true:=by unfold fC; simp [bK,ops]
  rw [hfo] at hft
  have hN:dG ts 5 c q K=if 1≤k∧k≤3 then (k,0) else (0,4):=by simp [dG,hq,← hkq]
  rw [hN]
  by_cases hk3:1≤k∧k≤3
  ·have hty:(k==1||(k==2||k==3))=true:=by simp; omega
   rw [if_pos hk3]
   simp [g0,g1,hq,hgk,hgk2]
   (repeat' first|contradiction|exact .ok|apply And.intro|intro _|(apply gc<;>simp+contextual[g0,g1,hq,hgk,hgk2]))
   refine aA (gL (AE k)) (by simp) ?_
   simp [hty]
   (repeat' first|contradiction|exact .ok|apply And.intro|intro _|(apply gc<;>simp+contextual))
   refine aA hft (by simp [htk,hKl]) ?_
   simp [hq,hgk,hgk2,hKl]
   all_goals exact gz
  ·have hty:(k==1||(k==2||k==3))=false:=by
    rw [Bool.eq_false_iff]
    intro h
    simp at h
    omega
   rw [if_neg hk3]
   simp [g0,g1,hq,hgk,hgk2]
   (repeat' first|contradiction|exact .ok|apply And.intro|intro _|(apply gc<;>simp+contextual[g0,g1,hq,hgk,hgk2]))
   refine aA (gL (AE k)) (by simp) ?_
   simp [hty]
   all_goals exact gz
 rw [if_neg (fun h=>ho5 h.1)]
 cases hfit:fC (bK o).2.2.1 K with
 | false =>
   rw [hfit] at hft
   rw [show dG ts o c g K=(0,4) from by simp [dG,ho5,hfit]]
   simp [ho5]
   (repeat' first|contradiction|exact .ok|apply And.intro|intro _|(apply gc<;>simp+contextual[ho5]))
   refine aA hft (by simp [htk,hKl]) ?_
   simp
   all_goals exact gz
 | true =>
   rw [hfit] at hft
   by_cases ho1:o=1
   ·subst ho1
    rw [show dG ts 1 c g K=(c,0) from by simp [dG,iD,hfit]]
    simp
    (repeat' first|contradiction|exact .ok|apply And.intro|intro _|(apply gc<;>simp+contextual))
    refine aA hft (by simp [htk,hKl]) ?_
    simp [hKl]
    all_goals exact gz
   by_cases hw0:(bK o).2.2.2=0
   ·have hkp:=fo ho1 ho5 hw0
    have hwi:=aH (n:=(ks.length:Int) - 1) (by omega) (by omega)
    obtain ⟨m,hm⟩:∃ m:Nat,ks.length=m+1:=⟨ks.length - 1,by omega⟩
    have hmK:m<K.length:=by omega
    obtain ⟨k,hkq⟩:∃ k,k=K[m]:=⟨_,rfl⟩
    have hgk:=dS hmK
    have hgk2:∀ h,K[m]'h=k:=fun _=>hkq.symm
    rw [← hkq] at hgk
    have hwi2:IntKind.i64.wrap ((ks.length:Int) - 1)=(m:Int):=by rw [hwi]; omega
    have hKm:K.length - 1=m:=by omega
    rw [show dG ts o c g K=(k,0) from by simp [dG,iD,ho5,ho1,hw0,hfit,hKm,hmK,← hkq]]
    simp [ho5,ho1]
    (repeat' first|contradiction|exact .ok|apply And.intro|intro _|(apply gc<;>simp+contextual[ho5,ho1]))
    refine aA hft (by simp [htk,hKl]) ?_
    have hml:m<ks.length:=by omega
    simp [ho5,ho1,hw0,hwi2,hml,hmK,hgk,hgk2,hKl]
    (repeat' first|contradiction|exact .ok|apply And.intro|intro _|(apply gc<;>simp+contextual[ho5,ho1,hw0,hwi2]))
   ·rw [show dG ts o c g K=((bK o).2.2.2,0) from by simp [dG,iD,ho5,ho1,hw0,hfit]]
    simp [ho5,ho1]
    (repeat' first|contradiction|exact .ok|apply And.intro|intro _|(apply gc<;>simp+contextual[ho5,ho1]))
    refine aA hft (by simp [htk,hKl]) ?_
    simp [ho5,ho1,hw0,hKl]
    (repeat' first|contradiction|exact .ok|apply And.intro|intro _|(apply gc<;>simp+contextual[ho5,ho1,hw0]))
theorem aAy (S:List Tb) (hl:S.length≤1000) (hS:∀ x∈S,x.ok) (hU:∀ x∈S,∀ l∈x.un,l.length≤1000) (ty:Tb→Ex→Int×Int)
  (hty:∀ x∈S,∀ e∈x.ch,Cf Es 64 [.d (.sl (aG (x.cols.map Col.t))),e.a] [] (.tup [.d (.int .i64 (ty x e).1),.d (.int .i64 (ty x e).2)]) []) :
  Cf Es 23 [aR S] [] (.d (.int .i64 (dR fN ty S))) []:=by
 refine aD cF (fn:=Tryz.f23) (by kernel_rfl) rfl (by kernel_rfl) (by decide) (by simp) ?_
 by_cases c1:6<S.length
 ·have i1:(6:Int)<S.length:=by omega
  rw [show dR fN ty S=8 from by unfold dR; rw [if_pos c1]]
  simp [aR,i1,c1]
  (repeat' first|contradiction|exact .ok|apply And.intro|intro _|(apply gc<;>simp+contextual[i1,c1]))
 have i1:¬ (6:Int)<S.length:=by omega
 have hR2:eZ (bC (jT fN ty S) S 0) (eZ (bC (fun _ x=>bC (fun _=>jP S x) x.fk 0) S 0) (eX S).2)=dR fN ty S:=by unfold dR; rw [if_neg c1]
 generalize dR fN ty S=T at *
 simp [aR,i1,c1]
 (repeat' first|contradiction|exact .ok|apply And.intro|intro _|(apply gc<;>simp+contextual[i1,c1]))
 clear i1 c1
 refine aL cF (by decide) (fun i:Nat=>{ s:=cG [(1,.ptr 1 0 0),(3,.d (.int .i64 i))],b:=cE [(1,1,.var [.d (.sl (S.map Tb.c))])] }) (fun i=>i≤S.length∧bC (jT fN ty S) (S.drop i) i=bC (jT fN ty S) S 0) (fun i=>S.length - i) 0 (by simp)
  (aE _ [(1,1,_)] ⟨by simp,by simp,by simp [aB,Blk.live],by simp⟩ (by simp [aB])) ?_
 rintro i ⟨hi,hf⟩
 by_cases hlt:i<S.length
 ·rw [eG hlt] at hf
  have hw:=aH (n:=(i:Int)+1) (by omega) (by omega)
  obtain ⟨x,hx⟩:∃ c,c=S[i]:=⟨_,rfl⟩
  have hgi:∀ h,S[i]'h=x:=fun _=>hx.symm
  have hxm:x∈S:=by rw [hx]; exact List.getElem_mem hlt
  obtain ⟨k,hk,hki⟩:=nR (p:=fun d:Tb=>d.n==x.n) (b:=0) hlt (by rw [← hx]; simp)
  have hk':aY (fun d:Tb=>d.n==x.n) S 0=k:=by rw [hk]; simp
  rw [← hx] at hf
  have hE:jT fN ty S i x=if fN x.n=false then 3 else if (k:Int)<i then 5 else eT fN ty x:=by unfold jT; rw [hk']
  have hbad:∀ z:Int,jT fN ty S i x=z→z ≠ 0→T=z:=fun z h h0=>by
   rw [h,if_pos h0] at hf
   rw [← hR2,← hf,fB h0]
  have hgood:jT fN ty S i x=0→bC (jT fN ty S) (S.drop (i+1)) (i+1)=bC (jT fN ty S) S 0:=fun h=>by
   rw [h,if_neg (by simp)] at hf
   exact hf
  have htb:=aAu x (hS x hxm) (hU x hxm) ty (hty x hxm)
  generalize jT fN ty S i x=E at *
  simp [hlt,hgi,Tb.c]
  (repeat' first|contradiction|exact .ok|apply And.intro|intro _|(apply gc<;>simp+contextual))
  refine aA (YM x.n) (by simp) ?_
  cases hn:fN x.n with
  | false =>
    rw [hn,if_pos rfl] at hE
    rw [hbad 3 hE (by decide)]
    simp [hn]
    (repeat' first|contradiction|exact .ok|apply And.intro|intro _|(apply gc<;>simp+contextual[hn]))
  | true =>
    rw [hn,if_neg (by decide)] at hE
    simp [hn,hlt,hgi,Tb.c]
    (repeat' first|contradiction|exact .ok|apply And.intro|intro _|(apply gc<;>simp+contextual[hn]))
    refine aA (gL (oV S hl x.n)) (by simp [aR]) ?_
    rw [cW hk']
    by_cases hki2:k<i
    ·rw [if_pos (by omega)] at hE
     rw [hbad 5 hE (by decide)]
     have hki4:¬ k=i:=by omega
     have hki5:¬ (k:Int)=i:=by omega
     simp [hki4,hki5]
     (repeat' first|contradiction|exact .ok|apply And.intro|intro _|(apply gc<;>simp+contextual[hki4,hki5]))
    ·rw [if_neg (by omega)] at hE
     obtain rfl:k=i:=by omega
     simp [hlt,hgi,Tb.c]
     (repeat' first|contradiction|exact .ok|apply And.intro|intro _|(apply gc<;>simp+contextual))
     refine aA htb (by simp [Tb.a,Tb.c]) ?_
     generalize eT fN ty x=e at *
     by_cases he:e=0
     ·simp [he]
      (repeat' first|contradiction|exact .ok|apply And.intro|intro _|(apply gc<;>simp+contextual[he]))
      refine ⟨k+1,⟨by omega,hgood (by rw [hE,he])⟩,?_,by simp; omega⟩
      exact aE _ [(1,1,_)] ⟨by simp,by simp,by simp [aB,Blk.live],by simp⟩ (by simp [aB,hw])
     ·rw [hbad e hE he]
      simp [he]
      (repeat' first|contradiction|exact .ok|apply And.intro|intro _|(apply gc<;>simp+contextual[he]))
 obtain rfl:i=S.length:=by omega
 rw [fA (Nat.le_refl _)] at hf
 have hK:=HK hf.symm
 rw [← hf,eP] at hR2
 clear hf hi hlt
 simp
 (repeat' first|contradiction|exact .ok|apply And.intro|intro _|(apply gc<;>simp+contextual))
 refine aL cF (by decide) (fun i:Nat=>{ s:=cG [(1,.ptr 1 0 0),(7,.d (.int .i64 i))],b:=cE [(1,1,.var [.d (.sl (S.map Tb.c))])] }) (fun i=>i≤S.length∧bC (fun _ x=>bC (fun _=>jP S x) x.fk 0) (S.drop i) i=bC (fun _ x=>bC (fun _=>jP S x) x.fk 0) S 0) (fun i=>S.length - i) 0 (by simp)
  (aE _ [(1,1,_)] ⟨by simp,by simp,by simp [aB,Blk.live],by simp⟩ (by simp [aB])) ?_
 rintro i ⟨hi,hf⟩
 by_cases hlt:i<S.length
 ·rw [eG hlt] at hf
  have hw:=aH (n:=(i:Int)+1) (by omega) (by omega)
  obtain ⟨x,hx⟩:∃ c,c=S[i]:=⟨_,rfl⟩
  have hgi:∀ h,S[i]'h=x:=fun _=>hx.symm
  have hxm:x∈S:=by rw [hx]; exact List.getElem_mem hlt
  have hxf:=(hS x hxm).fk
  rw [← hx] at hf
  simp [hlt,hgi,Tb.c]
  (repeat' first|contradiction|exact .ok|apply And.intro|intro _|(apply gc<;>simp+contextual))
  refine aL cF (by decide) (fun j:Nat=>{ s:=cG [(1,.ptr 1 0 0),(7,.d (.int .i64 i)),(8,.d (.int .i64 j))],b:=cE [(1,1,.var [.d (.sl (S.map Tb.c))])] }) (fun j=>j≤x.fk.length∧bC (fun _=>jP S x) (x.fk.drop j) j=bC (fun _=>jP S x) x.fk 0) (fun j=>x.fk.length - j) 0 (by simp)
   (aE _ [(1,1,_)] ⟨by simp,by simp,by simp [aB,Blk.live],by simp⟩ (by simp [aB])) ?_
  rintro j ⟨hj,hg⟩
  by_cases hjl:j<x.fk.length
  ·rw [eG hjl] at hg
   have hwj:=aH (n:=(j:Int)+1) (by omega) (by omega)
   obtain ⟨f,hfx⟩:∃ c,c=x.fk[j]:=⟨_,rfl⟩
   have hgf:∀ h,x.fk[j]'h=f:=fun _=>hfx.symm
   have hfm:f∈x.fk:=by rw [hfx]; exact List.getElem_mem hjl
   rw [← hfx] at hg
   have hbad:∀ z:Int,jP S x f=z→z ≠ 0→T=z:=fun z h h0=>by
    rw [h,if_pos h0] at hg
    rw [← hg,if_pos h0] at hf
    rw [← hf,fB h0] at hR2
    exact hR2.symm
   have hgood:jP S x f=0→bC (fun _=>jP S x) (x.fk.drop (j+1)) (j+1)=bC (fun _=>jP S x) x.fk 0:=fun h=>by
    rw [h,if_neg (by simp)] at hg
    exact hg
   simp [hlt,hgi,hjl,hgf,Fk.c,Tb.c]
   (repeat' first|contradiction|exact .ok|apply And.intro|intro _|(apply gc<;>simp+contextual))
   refine aA (gL (kU S hl hS hlt hx.symm hjl hfx.symm)) (by simp [aR]) ?_
   by_cases hz:0≤iB S f
   rotate_left
   ·have hR:jP S x f=11:=by
     unfold jP
     split
     ·rw [if_pos (by omega)]
     ·rfl
    rw [hbad 11 hR (by decide),lQ (nO hz)]
    simp
    all_goals exact gz
   obtain ⟨k,hk⟩:∃ k:Nat,iB S f=k:=⟨(iB S f).toNat,by omega⟩
   have hkl:k<S.length:=by
    have:=rC (p:=fun x:Tb=>x.n==f.t) (l:=S) (i:=0)
    have h2:aY (fun x:Tb=>x.n==f.t) S 0=k:=hk
    rw [h2] at this
    simp at this
    exact this
   obtain ⟨o,ho⟩:∃ o,o=S[k]:=⟨_,rfl⟩
   have hgk:∀ h,S[k]'h=o:=fun _=>ho.symm
   have hom:o∈S:=by rw [ho]; exact List.getElem_mem hkl
   have hR:jP S x f=if mN x o f.cols o.pr=true then 0 else 6:=by
    unfold jP
    rw [hk,Int.toNat_natCast,List.getElem?_eq_getElem hkl,← ho]
    simp only
    rw [if_neg (by omega)]
   have ha:=(nT (hK x hxm)).2 f hfm
   have hb:=(nT (hK o hom)).1
   have hbl:=(hS o hom).pr
   rw [cW (show aY (fun x:Tb=>x.n==f.t) S 0=k from hk)]
   clear hg hf
   rw [hR] at hbad hgood
   clear hR
   by_cases hll:f.cols.length=o.pr.length
   rotate_left
   ·have hP:mN x o f.cols o.pr=false:=by unfold mN; simp [hll]
    have hl':¬ (f.cols.length:Int)=o.pr.length:=by omega
    rw [hbad 6 (by rw [hP]; rfl) (by decide)]
    simp [hlt,hgi,hjl,hgf,hkl,hgk,Fk.c,Tb.c,hll,hl']
    (repeat' first|contradiction|exact .ok|apply And.intro|intro _|(apply gc<;>simp+contextual[hll,hl']))
   have hzl:(f.cols.zip o.pr).length=o.pr.length:=by simp [hll]
   have hPz:mN x o f.cols o.pr=(f.cols.zip o.pr).all fun p=>dE x p.1==dE o p.2:=by unfold mN; simp [hll]
   rw [hPz] at hbad hgood
   clear hPz
   simp [hlt,hgi,hjl,hgf,hkl,hgk,Fk.c,Tb.c,hll]
   (repeat' first|contradiction|exact .ok|apply And.intro|intro _|(apply gc<;>simp+contextual[hll]))
   refine aL cF (by decide) (fun m:Nat=>{ s:=cG [(1,.ptr 1 0 0),(7,.d (.int .i64 i)),(8,.d (.int .i64 j)),(9,.d (.int .i64 k)),(11,.d (.sl (aG f.cols))),(12,.d (.sl (aG o.pr))),(13,.d (.int .i64 m))],b:=cE [(1,1,.var [.d (.sl (S.map Tb.c))])] }) (fun m=>m≤o.pr.length∧((f.cols.zip o.pr).drop m).all (fun p=>dE x p.1==dE o p.2)=(f.cols.zip o.pr).all (fun p=>dE x p.1==dE o p.2)) (fun m=>o.pr.length - m) 0 (by simp)
    (aE _ [(1,1,_)] ⟨by simp,by simp,by simp [aB,Blk.live],by simp⟩ (by simp [aB])) ?_
   rintro m ⟨hm,hg⟩
   by_cases hml:m<o.pr.length
   ·have hma:m<f.cols.length:=by omega
    have hwm:=aH (n:=(m:Int)+1) (by omega) (by omega)
    have hga:=dS hma
    have hgb:=dS hml
    obtain ⟨u,hu⟩:∃ u,u=f.cols[m]:=⟨_,rfl⟩
    obtain ⟨v,hv⟩:∃ u,u=o.pr[m]:=⟨_,rfl⟩
    have hgu:∀ h,f.cols[m]'h=u:=fun _=>hu.symm
    have hgv:∀ h,o.pr[m]'h=v:=fun _=>hv.symm
    rw [← hu] at hga
    rw [← hv] at hgb
    rw [List.drop_eq_getElem_cons (by rw [hzl]; exact hml),List.all_cons,List.getElem_zip,← hu,← hv] at hg
    have hru:=ha u (by rw [hu]; exact List.getElem_mem hma)
    have hrv:=hb v (by rw [hv]; exact List.getElem_mem hml)
    obtain ⟨a,rfl⟩:∃ a:Nat,u=a:=⟨u.toNat,by omega⟩
    obtain ⟨b,rfl⟩:∃ a:Nat,v=a:=⟨v.toNat,by omega⟩
    have hal:a<x.cols.length:=by omega
    have hbl2:b<o.cols.length:=by omega
    obtain ⟨p,hp⟩:∃ p,p=x.cols[a]:=⟨_,rfl⟩
    obtain ⟨q,hq⟩:∃ p,p=o.cols[b]:=⟨_,rfl⟩
    have hgp:∀ h,x.cols[a]'h=p:=fun _=>hp.symm
    have hgq:∀ h,o.cols[b]'h=q:=fun _=>hq.symm
    rw [mO hal hp.symm,mO hbl2 hq.symm] at hg
    by_cases he:p.t=q.t
    ·rw [show (p.t==q.t)=true from by simpa using he,Bool.true_and] at hg
     simp [hlt,hgi,hkl,hgk,Tb.c,Col.c,hml,hma,hga,hgb,hgu,hgv,hal,hbl2,hgp,hgq,he]
     (repeat' first|contradiction|exact .ok|apply And.intro|intro _|(apply gc<;>simp+contextual[he]))
     refine ⟨m+1,⟨by omega,hg⟩,?_,by simp; omega⟩
     exact aE _ [(1,1,_)] ⟨by simp,by simp,by simp [aB,Blk.live],by simp⟩ (by simp [aB,hwm])
    ·rw [show (p.t==q.t)=false from by simpa using he,Bool.false_and] at hg
     rw [hbad 6 (by rw [← hg]; rfl) (by decide)]
     simp [hlt,hgi,hkl,hgk,Tb.c,Col.c,hml,hma,hga,hgb,hgu,hgv,hal,hbl2,hgp,hgq,he]
     (repeat' first|contradiction|exact .ok|apply And.intro|intro _|(apply gc<;>simp+contextual[he]))
   ·obtain rfl:m=o.pr.length:=by omega
    rw [List.drop_of_length_le (by omega),List.all_nil] at hg
    simp [hll]
    (repeat' first|contradiction|exact .ok|apply And.intro|intro _|(apply gc<;>simp+contextual))
    refine ⟨j+1,⟨by omega,hgood (by rw [← hg]; rfl)⟩,?_,by simp; omega⟩
    exact aE _ [(1,1,_)] ⟨by simp,by simp,by simp [aB,Blk.live],by simp⟩ (by simp [aB,hwj])
  ·obtain rfl:j=x.fk.length:=by omega
   rw [fA (Nat.le_refl _)] at hg
   rw [← hg,if_neg (by simp)] at hf
   simp [hlt,hgi,Tb.c]
   (repeat' first|contradiction|exact .ok|apply And.intro|intro _|(apply gc<;>simp+contextual))
   refine ⟨i+1,⟨by omega,hf⟩,?_,by simp; omega⟩
   exact aE _ [(1,1,_)] ⟨by simp,by simp,by simp [aB,Blk.live],by simp⟩ (by simp [aB,hw])
 obtain rfl:i=S.length:=by omega
 rw [fA (Nat.le_refl _)] at hf
 rw [← hf,eP] at hR2
 rw [← hR2]
 simp
 (repeat' first|contradiction|exact .ok|apply And.intro|intro _|(apply gc<;>simp+contextual))
 refine aA (gL (KV S hl hS)) (by simp [aR]) ?_
 simp
 all_goals exact gz
end Go.Proofs.Tryz
