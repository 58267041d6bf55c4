import Derived.Test.YtkkbepgccddjoaaGreatDoorTya
import Derived.Test.YtkkbepgccddjoaaGreatDoorRsR
set_option linter.all false
namespace Go.Proofs.Tryz
open Go.Ab
set_option maxRecDepth 100000
set_option maxHeartbeats 8000000
theorem cln_one {c n g:Int} {t:List UInt8} (h:clnG 1 c n g t=true):1≤c∧c≤3:=by
 have e:clnG 1 c n g t=((c==1||(c==2||c==3))&&zer4 0 n g t):=rfl
 rw [e] at h
 simp at h
 omega
theorem cln_node {o c n g:Int} {t:List UInt8} (h6:6≤o) (h:clnG o c n g t=true):c=0∧n=0∧t=[]∧g=0:=by
 have e:clnG o c n g t=zer4 c n g t:=by unfold clnG; rw [if_neg (by omega),if_neg (by omega),if_neg (by omega),if_neg (by omega),if_neg (by omega)]
 rw [e] at h
 simpa [zer4] using h
theorem node_res (ts:List Int) {o c n g:Int} {t:List UInt8} {K:List Int} (hio:isOp o=true) (hcg:clnG o c n g t=true) (hcn:cntd o K.length=true) (hK:∀ x∈K,1≤x∧x≤3) :
  nodeTy ts o c g K=if resG ts o c g K<1∨3<resG ts o c g K then (0,4) else (resG ts o c g K,0):=by
 obtain ⟨h1,h2⟩:=isOp_in hio
 by_cases h6:6≤o
 ·exact res_node ts o c g K h6 h2 hcn hK
 ·obtain ⟨_,_,_,f5⟩:=fit_all hcn
  have:K=[]:=List.eq_nil_of_length_eq_zero (f5 (by omega))
  subst this
  exact res_leaf ts o c g h1 (by omega) (fun h=>by subst h; exact cln_one hcg)
theorem eachG_nz {α β:Type} {f:α→β×Int}:∀ (l:List α),(eachG f l).2 ≠ 0→∃ (i:Nat) (x:α),(∀ j y,j<i→l[j]?=some y→(f y).2=0)∧l[i]?=some x∧(f x).2 ≠ 0
 | [],h=>absurd rfl h
 | x::xs,h=>by
   by_cases hx:(f x).2=0
   ·rw [eachG,if_pos hx] at h
    by_cases h2:(eachG f xs).2=0
    ·rw [if_pos h2] at h; exact absurd rfl h
    ·obtain ⟨i,y,a,b,c⟩:=eachG_nz xs h2
     refine ⟨i+1,y,fun j z hj hz=>?_,by simpa using b,c⟩
     cases j with
     | zero=>simp at hz; subst hz; exact hx
     | succ j=>exact a j z (by omega) (by simpa using hz)
   ·exact ⟨0,x,fun j y hj=>absurd hj (by omega),rfl,hx⟩
theorem tyA_in (ts:List Int):∀ (m:Nat) (e:Ex),SizeOf.sizeOf e<m→(tyA ts e).2=0→1≤(tyA ts e).1∧(tyA ts e).1≤3
 | 0,_,h,_=>absurd h (by omega)
 | m+1,.mk o c n t g ks,hm,h=>by
   by_cases hz:(eachG (tyA ts) ks).2=0
   ·have hall:=eachG_all ks hz
    have hk:∀ x∈ktsA ts ks ks.length,1≤x∧x≤3:=by
     intro x hx
     rw [ktsA_full] at hx
     obtain ⟨z,hzm,rfl⟩:=List.mem_map.1 hx
     exact tyA_in ts m z (by have:=Ex.kid_lt (e:=.mk o c n t g ks) (k:=z) hzm; omega) (hall z hzm)
    rw [tyA_node ts o c n g t ks hall] at h ⊢
    generalize ktsA ts ks ks.length=K at *
    unfold endT at h ⊢
    split at h
    ·exact absurd h (by simp)
    rename_i h1
    rw [if_neg h1]
    split at h
    ·exact absurd h (by simp)
    rename_i h2
    rw [if_neg h2]
    split at h
    ·exact absurd h (by simp)
    rename_i h3
    rw [if_neg h3]
    simp only [Bool.not_eq_false,Bool.and_eq_true] at h1 h2
    exact node_in ts o c g K (node_res ts h1.1 h1.2 h2 hk) h
   ·obtain ⟨i,x,a,b,d⟩:=eachG_nz ks hz
    rw [tyA_bad ts o c n g t ks a b d] at h
    exact absurd h d
theorem rt_nodeA (ts:List Int) (hts:ts.length≤1000) (o c n g:Int) (t:List UInt8) (ks:List Ex) (hk:ks.length≤12)
  (hrec:∀ z∈ks,Cf En 147 [.d (.sl (ints ts)),z.a] [] (.tup [.d (.int .i64 (tyA ts z).1),.d (.int .i64 (tyA ts z).2)]) []) :
  Cf En 147 [.d (.sl (ints ts)),(Ex.mk o c n t g ks).a] [] (.tup [.d (.int .i64 (tyA ts (.mk o c n t g ks)).1),.d (.int .i64 (tyA ts (.mk o c n t g ks)).2)]) []:=by
 refine cf_intro mix (fn:=Tryz.f147) (by kernel_rfl) rfl (by kernel_rfl) (by decide) (by simp) ?_
 have hpl:=pl_any o c n g t ks
 have hin:∀ x∈ks,(tyA ts x).2=0→1≤(tyA ts x).1∧(tyA ts x).1≤3:=fun x _ h=>tyA_in ts _ x (Nat.lt_succ_self _) h
 rw [Ex.a] at hpl
 simp [Ex.a,Ex.c,kidsC_map] at hpl ⊢
 (repeat' (first|contradiction|exact .ok|apply And.intro|intro _|(refine gc (fun h=>?_) (fun h=>?_)<;>(have h':=h;(try simp at h');first|done|simp[h,h']|simp))))
 refine aloopT mix (by decide) (fun i:Nat=>{ s:=mkS [(0,.d (.sl (ints ts))),(3,.ptr 3 0 0),(6,.ref 900 0 i 1),(7,.d (.int .i64 i))],b:=mkB [(3,3,.var [.d (.int .i64 o),.d (.int .i64 c),.d (.int .i64 n),.d (.str t),.d (.int .i64 g),.d (.sl (ks.map Ex.c))]),(900,900,.arr 3 1 (ints (ktsA ts ks i)) false)] })
  (fun i=>i≤ks.length∧∀ j z,j<i→ks[j]?=some z→(tyA ts z).2=0) (fun i=>ks.length - i) 0 (by simp)
  (sub_mkn 6 900 3 1 (by simp) (by simp) (by decide) (by decide) _ [(3,3,_),(900,900,_)] ⟨by simp,by simp,by simp [renOf,Blk.live,ktsA,ints],by simp⟩ (by simp [renOf])) ?_
 rintro i ⟨hi,ho⟩
 have hKl:=ktsA_len (ts:=ts) hi
 by_cases hlt:i<ks.length
 ·have hg:ks[i]?=some ks[i]:=List.getElem?_eq_getElem hlt
  obtain ⟨z,hz⟩:∃ z,z=ks[i]:=⟨_,rfl⟩
  have hzm:z∈ks:=by rw [hz]; exact List.getElem_mem hlt
  have hr:=hrec z hzm
  have hgi:∀ h,ks[i]'h=z:=fun _=>hz.symm
  have hnx:=ktsA_succ (ts:=ts) hlt
  have hw:=wrap_in (n:=(i:Int)+1) (by omega) (by omega)
  rw [← hz] at hg hnx
  by_cases he:(tyA ts z).2=0
  ·have hok:∀ j w,j<i+1→ks[j]?=some w→(tyA ts w).2=0:=fun j w hj hjw=>by
    rcases Nat.lt_or_ge j i with c | c
    ·exact ho j w c hjw
    ·have:j=i:=by omega
     subst this
     rw [hg] at hjw
     cases hjw
     exact he
   rw [he] at hr
   generalize (tyA ts z).1=kk at hr hnx
   generalize hK:ktsA ts ks i=K at *
   have htk:(ints K).take i=ints K:=List.take_of_length_le (by simp [hKl])
   clear hpl hin
   rcases z with ⟨zo,zc,zn,zt,zg,zk⟩
   simp [hlt,hg,hgi,Ex.c]
   (repeat' (first|contradiction|exact .ok|apply And.intro|intro _|(refine gc (fun h=>?_) (fun h=>?_)<;>(have h':=h;(try simp at h');first|done|simp[h,h']|simp))))
   refine acallT_plain hr (by simp [Ex.a,Ex.c]) ?_
   simp [hKl,htk,szs i (by omega) 8 (by decide),szs (i+1) (by omega) 8 (by decide)]
   (repeat' (first|contradiction|exact .ok|apply And.intro|intro _|(refine gc (fun h=>?_) (fun h=>?_)<;>(have h':=h;(try simp at h');first|done|simp[h,h']|simp))))
   refine ⟨i+1,⟨hlt,hok⟩,?_,by simp; omega⟩
   exact sub_mk _ [(3,3,_),(900,34,_)] ⟨by simp,by simp,by simp [renOf,Blk.live,hnx,ints_snoc2],by simp⟩ (by simp [renOf,hw])
  ·rw [tyA_bad ts o c n g t ks ho hg he]
   generalize (tyA ts z).2=ee at *
   generalize (tyA ts z).1=kk at hr
   clear hpl hin
   rcases z with ⟨zo,zc,zn,zt,zg,zk⟩
   simp [hlt,hg,hgi,Ex.c]
   (repeat' (first|contradiction|exact .ok|apply And.intro|intro _|(refine gc (fun h=>?_) (fun h=>?_)<;>(have h':=h;(try simp at h');first|done|simp[h,h']|simp))))
   refine acallT_plain hr (by simp [Ex.a,Ex.c]) ?_
   simp [he]
   (repeat' (first|contradiction|exact .ok|apply And.intro|intro _|(refine gc (fun h=>?_) (fun h=>?_)<;>(have h':=h;(try simp at h');first|done|simp[h,h',he]|simp[he]))))
 obtain rfl:i=ks.length:=by omega
 have hall:∀ x∈ks,(tyA ts x).2=0:=fun x hx=>by
  obtain ⟨j,hj,rfl⟩:=List.getElem_of_mem hx
  exact ho j _ hj (List.getElem?_eq_getElem hj)
 have hKin:∀ x∈ktsA ts ks ks.length,1≤x∧x≤3:=by
  intro x hx
  rw [ktsA_full] at hx
  obtain ⟨z,hzm,rfl⟩:=List.mem_map.1 hx
  exact hin z hzm (hall z hzm)
 rw [tyA_node ts o c n g t ks hall]
 clear hrec hi hlt ho hall hin
 generalize hK:ktsA ts ks ks.length=K at *
 clear hK
 have htk:(ints K).take ks.length=ints K:=List.take_of_length_le (by simp [hKl])
 simp
 (repeat' (first|contradiction|exact .ok|apply And.intro|intro _|(refine gc (fun h=>?_) (fun h=>?_)<;>(have h':=h;(try simp at h');first|done|simp[h,h']|simp))))
 refine acallT_plain hpl (by simp) ?_
 cases hpc:(isOp o&&clnG o c n g t) with
 | false =>
   rw [show endT ts o c n g t K=(0,1) from by unfold endT; rw [if_pos hpc]]
   simp
   all_goals exact gz
 | true =>
 rw [Bool.and_eq_true] at hpc
 obtain ⟨hio,hcg⟩:=hpc
 obtain ⟨o1,o28⟩:=isOp_in hio
 have hkd:=rk_kids o o1 o28 ks.length
 simp
 (repeat' (first|contradiction|exact .ok|apply And.intro|intro _|(refine gc (fun h=>?_) (fun h=>?_)<;>(have h':=h;(try simp at h');first|done|simp[h,h']|simp))))
 refine acallT_plain hkd (by simp) ?_
 cases hcn:cntd o ks.length with
 | false =>
   rw [show endT ts o c n g t K=(0,9) from by unfold endT; rw [hio,hcg,hKl,hcn]; rfl]
   simp
   all_goals exact gz
 | true =>
 have hE:endT ts o c n g t K=if o=5∧¬ (0≤g∧g<ts.length) then (0,3) else nodeTy ts o c g K:=by unfold endT; rw [hio,hcg,hKl,hcn]; rfl
 rw [hE,node_res ts hio hcg (by rw [hKl]; exact hcn) hKin]
 clear hE hKin
 have hrs:(o=5→0≤g∧g<ts.length)→Cf En 199 [.d (.sl (ints ts)),(Ex.mk o c n t g ks).a,.d (.sl (ints K))] [] (.d (.int .i64 (resG ts o c g K))) []:=fun h5=>by
  by_cases h6:6≤o
  ·obtain ⟨rfl,rfl,rfl,rfl⟩:=cln_node h6 hcg
   exact rs_node ts hts o ks K h6 o28 (by omega) (by rw [hKl]; exact hcn)
  ·obtain ⟨_,_,_,f5⟩:=fit_all hcn
   have hks:ks=[]:=List.eq_nil_of_length_eq_zero (f5 (by omega))
   subst hks
   have hK0:K=[]:=List.eq_nil_of_length_eq_zero (by simpa using hKl)
   subst hK0
   exact rs_leaf ts hts o c n g t o1 (by omega) h5
 by_cases ho5:o=5
 ·subst ho5
  by_cases g0:g<0
  ·rw [if_pos ⟨rfl,by omega⟩]
   simp [g0]
   (repeat' (first|contradiction|exact .ok|apply And.intro|intro _|(refine gc (fun h=>?_) (fun h=>?_)<;>(have h':=h;(try simp at h');first|done|simp[h,h',g0]|simp[g0]))))
  by_cases g1:(ts.length:Int)≤g
  ·rw [if_pos ⟨rfl,by omega⟩]
   simp [g0,g1]
   (repeat' (first|contradiction|exact .ok|apply And.intro|intro _|(refine gc (fun h=>?_) (fun h=>?_)<;>(have h':=h;(try simp at h');first|done|simp[h,h',g0,g1]|simp[g0,g1]))))
  rw [if_neg (fun h=>h.2 ⟨by omega,by omega⟩)]
  replace hrs:=hrs fun _=>⟨by omega,by omega⟩
  rw [Ex.a,Ex.c] at hrs
  generalize resG ts 5 c g K=r at *
  simp [g0,g1]
  (repeat' (first|contradiction|exact .ok|apply And.intro|intro _|(refine gc (fun h=>?_) (fun h=>?_)<;>(have h':=h;(try simp at h');first|done|simp[h,h',g0,g1]|simp[g0,g1]))))
  refine acallT_plain hrs (by simp [htk,hKl,kidsC_map]) ?_
  by_cases q1:r<1
  ·rw [if_pos (.inl q1)]
   simp [q1,hKl]
   (repeat' (first|contradiction|exact .ok|apply And.intro|intro _|(refine gc (fun h=>?_) (fun h=>?_)<;>(have h':=h;(try simp at h');first|done|simp[h,h',q1]|simp[q1]))))
  ·by_cases q2:3<r
   ·rw [if_pos (.inr q2)]
    simp [q1,q2,hKl]
    (repeat' (first|contradiction|exact .ok|apply And.intro|intro _|(refine gc (fun h=>?_) (fun h=>?_)<;>(have h':=h;(try simp at h');first|done|simp[h,h',q1,q2]|simp[q1,q2]))))
   ·rw [if_neg (by omega)]
    simp [q1,q2,hKl]
    (repeat' (first|contradiction|exact .ok|apply And.intro|intro _|(refine gc (fun h=>?_) (fun h=>?_)<;>(have h':=h;(try simp at h');first|done|simp[h,h',q1,q2]|simp[q1,q2]))))
 rw [if_neg (fun h=>ho5 h.1)]
 replace hrs:=hrs fun h=>absurd h ho5
 rw [Ex.a,Ex.c] at hrs
 generalize resG ts o c g K=r at *
 simp [ho5]
 (repeat' (first|contradiction|exact .ok|apply And.intro|intro _|(refine gc (fun h=>?_) (fun h=>?_)<;>(have h':=h;(try simp at h');first|done|simp[h,h',ho5]|simp[ho5]))))
 refine acallT_plain hrs (by simp [htk,hKl,kidsC_map]) ?_
 by_cases q1:r<1
 ·rw [if_pos (.inl q1)]
  simp [q1,hKl]
  (repeat' (first|contradiction|exact .ok|apply And.intro|intro _|(refine gc (fun h=>?_) (fun h=>?_)<;>(have h':=h;(try simp at h');first|done|simp[h,h',q1]|simp[q1]))))
 ·by_cases q2:3<r
  ·rw [if_pos (.inr q2)]
   simp [q1,q2,hKl]
   (repeat' (first|contradiction|exact .ok|apply And.intro|intro _|(refine gc (fun h=>?_) (fun h=>?_)<;>(have h':=h;(try simp at h');first|done|simp[h,h',q1,q2]|simp[q1,q2]))))
  ·rw [if_neg (by omega)]
   simp [q1,q2,hKl]
   (repeat' (first|contradiction|exact .ok|apply And.intro|intro _|(refine gc (fun h=>?_) (fun h=>?_)<;>(have h':=h;(try simp at h');first|done|simp[h,h',q1,q2]|simp[q1,q2]))))
theorem x_typA {ts:List Int} (hts:ts.length≤1000):∀ (m:Nat) (e:Ex),SizeOf.sizeOf e<m→∀ q,e.few q=true→Cf Es 132 [.d (.sl (ints ts)),e.a] [] (.tup [.d (.int .i64 (tyA ts e).1),.d (.int .i64 (tyA ts e).2)]) []
 | 0,_,h,_,_=>absurd h (by omega)
 | m+1,.mk o c n t g ks,hm,q,hq=>by
   obtain ⟨hkl,_,hfew⟩:=fewC_kids hq
   exact x_nodeA ts hts o c n g t ks hkl fun z hz=>x_typA hts m z (by have:=Ex.kid_lt (e:=.mk o c n t g ks) (k:=z) hz; omega) (q+1) (hfew z hz)
theorem r_typedA {ts:List Int} (hts:ts.length≤1000):∀ (m:Nat) (e:Ex),SizeOf.sizeOf e<m→∀ q,e.few q=true→Cf En 147 [.d (.sl (ints ts)),e.a] [] (.tup [.d (.int .i64 (tyA ts e).1),.d (.int .i64 (tyA ts e).2)]) []
 | 0,_,h,_,_=>absurd h (by omega)
 | m+1,.mk o c n t g ks,hm,q,hq=>by
   obtain ⟨hkl,_,hfew⟩:=fewC_kids hq
   exact rt_nodeA ts hts o c n g t ks hkl fun z hz=>r_typedA hts m z (by have:=Ex.kid_lt (e:=.mk o c n t g ks) (k:=z) hz; omega) (q+1) (hfew z hz)
def typeA (ts:List Int) (e:Ex):Int×Int:=if 200<e.size then (0,8) else if 24<(e.dep:Int) then (0,13) else tyA ts e
theorem x_typeA {ts:List Int} (hts:ts.length≤1000) {e:Ex} (hq:e.few 0=true):Cf Es 92 [.d (.sl (ints ts)),e.a] [] (.tup [.d (.int .i64 (typeA ts e).1),.d (.int .i64 (typeA ts e).2)]) []:=by
 refine cf_intro mixs (fn:=Tryz.f92) (by kernel_rfl) rfl (by kernel_rfl) (by decide) (by simp) ?_
 have hs:=ups (e_size (SizeOf.sizeOf e+1) e (by omega) 0 hq)
 have hp:=ups (e_depth (SizeOf.sizeOf e+1) e (by omega) 0 hq)
 have ht:=x_typA hts _ e (Nat.lt_succ_self _) 0 hq
 unfold typeA
 generalize tyA ts e=T at *
 generalize e.size=s at *
 generalize e.dep=d at *
 rcases e with ⟨o,c,n,t,g,ks⟩
 simp [Ex.a,Ex.c]
 (repeat' (first|contradiction|exact .ok|apply And.intro|intro _|(refine gc (fun h=>?_) (fun h=>?_)<;>(have h':=h;(try simp at h');first|done|simp[h,h']|simp))))
 refine acallT_plain hs (by simp [Ex.a,Ex.c]) ?_
 by_cases h2:200<s
 ·simp [h2]
  (repeat' (first|contradiction|exact .ok|apply And.intro|intro _|(refine gc (fun h=>?_) (fun h=>?_)<;>(have h':=h;(try simp at h');first|done|simp[h,h',h2]|simp[h2]))))
 ·simp [h2]
  (repeat' (first|contradiction|exact .ok|apply And.intro|intro _|(refine gc (fun h=>?_) (fun h=>?_)<;>(have h':=h;(try simp at h');first|done|simp[h,h',h2]|simp[h2]))))
  refine acallT_plain hp (by simp [Ex.a,Ex.c]) ?_
  by_cases h3:(24:Int)<d
  ·simp [h2,h3]
   (repeat' (first|contradiction|exact .ok|apply And.intro|intro _|(refine gc (fun h=>?_) (fun h=>?_)<;>(have h':=h;(try simp at h');first|done|simp[h,h',h3]|simp[h3]))))
  ·simp [h2,h3]
   (repeat' (first|contradiction|exact .ok|apply And.intro|intro _|(refine gc (fun h=>?_) (fun h=>?_)<;>(have h':=h;(try simp at h');first|done|simp[h,h',h3]|simp[h3]))))
   refine acallT_plain ht (by simp [Ex.a,Ex.c]) ?_
   simp
   (repeat' (first|contradiction|exact .ok|apply And.intro|intro _|(refine gc (fun h=>?_) (fun h=>?_)<;>(have h':=h;(try simp at h');first|done|simp[h,h']|simp))))
   all_goals rw [if_neg h2,if_neg h3]
theorem r_typeA {ts:List Int} (hts:ts.length≤1000) {e:Ex} (hq:e.few 0=true):Cf En 100 [.d (.sl (ints ts)),e.a] [] (.tup [.d (.int .i64 (typeA ts e).1),.d (.int .i64 (typeA ts e).2)]) []:=by
 refine cf_intro mix (fn:=Tryz.f100) (by kernel_rfl) rfl (by kernel_rfl) (by decide) (by simp) ?_
 have hs:=size_cf (SizeOf.sizeOf e+1) e (by omega) (fits_few _ e (Nat.lt_succ_self _) 0 hq)
 have hp:=rx_depth (SizeOf.sizeOf e+1) e (by omega) 0 hq
 have ht:=r_typedA hts _ e (Nat.lt_succ_self _) 0 hq
 unfold typeA
 generalize tyA ts e=T at *
 generalize e.size=s at *
 generalize e.dep=d at *
 rcases e with ⟨o,c,n,t,g,ks⟩
 simp [Ex.a,Ex.c]
 (repeat' (first|contradiction|exact .ok|apply And.intro|intro _|(refine gc (fun h=>?_) (fun h=>?_)<;>(have h':=h;(try simp at h');first|done|simp[h,h']|simp))))
 refine acallT_plain hs (by simp [Ex.a,Ex.c]) ?_
 by_cases h2:200<s
 ·simp [h2]
  (repeat' (first|contradiction|exact .ok|apply And.intro|intro _|(refine gc (fun h=>?_) (fun h=>?_)<;>(have h':=h;(try simp at h');first|done|simp[h,h',h2]|simp[h2]))))
 ·simp [h2]
  (repeat' (first|contradiction|exact .ok|apply And.intro|intro _|(refine gc (fun h=>?_) (fun h=>?_)<;>(have h':=h;(try simp at h');first|done|simp[h,h',h2]|simp[h2]))))
  refine acallT_plain hp (by simp [Ex.a,Ex.c]) ?_
  by_cases h3:(24:Int)<d
  ·simp [h2,h3]
   (repeat' (first|contradiction|exact .ok|apply And.intro|intro _|(refine gc (fun h=>?_) (fun h=>?_)<;>(have h':=h;(try simp at h');first|done|simp[h,h',h3]|simp[h3]))))
  ·simp [h2,h3]
   (repeat' (first|contradiction|exact .ok|apply And.intro|intro _|(refine gc (fun h=>?_) (fun h=>?_)<;>(have h':=h;(try simp at h');first|done|simp[h,h',h3]|simp[h3]))))
   refine acallT_plain ht (by simp [Ex.a,Ex.c]) ?_
   simp
   (repeat' (first|contradiction|exact .ok|apply And.intro|intro _|(refine gc (fun h=>?_) (fun h=>?_)<;>(have h':=h;(try simp at h');first|done|simp[h,h']|simp))))
   all_goals rw [if_neg h2,if_neg h3]
end Go.Proofs.Tryz
