import Derived.Test.YthbnleoonldffaaGreatDoorQSve
import Derived.Test.YthbnleoonldffaaGreatDoorRsR
set_option linter.all false
namespace Go.Proofs.Tryz
open Go.Ab
set_option maxRecDepth 100000
set_option maxHeartbeats 8000000
theorem aCV {c n g:Int} {t:List UInt8} (h:gJ 1 c n g t=true):1≤c∧c≤3:=by
 have e:gJ 1 c n g t=((c==1||(c==2||c==3))&&cN 0 n g t):=rfl
 rw [e] at h
 simp at h
 omega
theorem aAJ {o c n g:Int} {t:List UInt8} (h6:6≤o) (h:gJ o c n g t=true):c=0∧n=0∧t=[]∧g=0:=by
 have e:gJ o c n g t=cN c n g t:=by unfold gJ; rw [if_neg (by omega),if_neg (by omega),if_neg (by omega),if_neg (by omega),if_neg (by omega)]
 rw [e] at h
 simpa [cN] using h
theorem LX (ts:List Int) {o c n g:Int} {t:List UInt8} {K:List Int} (hio:bL o=true) (hcg:gJ o c n g t=true) (hcn:bI o K.length=true) (hK:∀ x∈K,1≤x∧x≤3) :
  dG ts o c g K=if dT ts o c g K<1∨3<dT ts o c g K then (0,4) else (dT ts o c g K,0):=by
 obtain ⟨h1,h2⟩:=HN hio
 by_cases h6:6≤o
 ·exact aAH ts o c g K h6 h2 hcn hK
 ·obtain ⟨_,_,_,f5⟩:=HO hcn
  have:K=[]:=List.eq_nil_of_length_eq_zero (f5 (by omega))
  subst this
  exact aAI ts o c g h1 (by omega) (fun h=>by subst h; exact aCV hcg)
theorem LY {α β:Type} {f:α→β×Int}:∀ (l:List α),(jQ f l).2 ≠ 0→∃ (i:Nat) (x:α),(∀ j y,j<i→l[j]?=some y→(f y).2=0)∧l[i]?=some x∧(f x).2 ≠ 0
 | [],h=>absurd rfl h
 | x::xs,h=>by
   by_cases hx:(f x).2=0
   ·rw [jQ,if_pos hx] at h
    by_cases h2:(jQ f xs).2=0
    ·rw [if_pos h2] at h; exact absurd rfl h
    ·obtain ⟨i,y,a,b,c⟩:=LY xs h2
     refine ⟨i+1,y,fun j z hj hz=>?_,by simpa using b,c⟩
     cases j with
     | zero=>simp at hz; subst hz; exact hx
     | succ j=>exact a j z (by omega) (by simpa using hz)
   ·exact ⟨0,x,fun j y hj=>absurd hj (by omega),rfl,hx⟩
theorem aAK (ts:List Int):∀ (m:Nat) (e:Ex),SizeOf.sizeOf e<m→(gO ts e).2=0→1≤(gO ts e).1∧(gO ts e).1≤3
 | 0,_,h,_=>absurd h (by omega)
 | m+1,.mk o c n t g ks,hm,h=>by
   by_cases hz:(jQ (gO ts) ks).2=0
   ·have hall:=ES ks hz
    have hk:∀ x∈oY ts ks ks.length,1≤x∧x≤3:=by
     intro x hx
     rw [nX] at hx
     obtain ⟨z,hzm,rfl⟩:=List.mem_map.1 hx
     exact aAK ts m z (by have:=Ex.kid_lt (e:=.mk o c n t g ks) (k:=z) hzm; omega) (hall z hzm)
    rw [qR ts o c n g t ks hall] at h ⊢
    generalize oY ts ks ks.length=K at *
    unfold oX at h ⊢
    split at h
    ·exact absurd h (by simp)
    rename_i h1
    rw [if_neg h1]
    split at h
    ·exact absurd h (by simp)
    rename_i h2
    rw [if_neg h2]
    split at h
    ·exact absurd h (by simp)
    rename_i h3
    rw [if_neg h3]
    simp only [Bool.not_eq_false,Bool.and_eq_true] at h1 h2
    exact aCU ts o c g K (LX ts h1.1 h1.2 h2 hk) h
   ·obtain ⟨i,x,a,b,d⟩:=LY ks hz
    rw [HP ts o c n g t ks a b d] at h
    exact absurd h d
theorem aAL (ts:List Int) (hts:ts.length≤1000) (o c n g:Int) (t:List UInt8) (ks:List Ex) (hk:ks.length≤12)
  (hrec:∀ z∈ks,Cf En 133 [.d (.sl (aG ts)),z.a] [] (.tup [.d (.int .i64 (gO ts z).1),.d (.int .i64 (gO ts z).2)]) []) :
  Cf En 133 [.d (.sl (aG ts)),(Ex.mk o c n t g ks).a] [] (.tup [.d (.int .i64 (gO ts (.mk o c n t g ks)).1),.d (.int .i64 (gO ts (.mk o c n t g ks)).2)]) []:=by
 refine aD aW (fn:=Tryz.f133) (by kernel_rfl) rfl (by kernel_rfl) (by decide) (by simp) ?_
 have hpl:=aDq o c n g t ks
 have hin:∀ x∈ks,(gO ts x).2=0→1≤(gO ts x).1∧(gO ts x).1≤3:=fun x _ h=>aAK ts _ x (Nat.lt_succ_self _) h
 rw [Ex.a] at hpl
 simp [Ex.a,Ex.c,aC] at hpl ⊢
 (repeat' first|contradiction|exact .ok|apply And.intro|intro _|(apply gc<;>simp+contextual))
 refine aL aW (by decide) (fun i:Nat=>{ s:=cG [(0,.d (.sl (aG ts))),(3,.ptr 3 0 0),(6,.ref 900 0 i 1),(7,.d (.int .i64 i))],b:=cE [(3,3,.var [.d (.int .i64 o),.d (.int .i64 c),.d (.int .i64 n),.d (.str t),.d (.int .i64 g),.d (.sl (ks.map Ex.c))]),(900,900,.arr 3 1 (aG (oY ts ks i)) false)] })
  (fun i=>i≤ks.length∧∀ j z,j<i→ks[j]?=some z→(gO ts z).2=0) (fun i=>ks.length - i) 0 (by simp)
  (dW 6 900 3 1 (by simp) (by simp) (by decide) (by decide) _ [(3,3,_),(900,900,_)] ⟨by simp,by simp,by simp [aB,Blk.live,oY,aG],by simp⟩ (by simp [aB])) ?_
 rintro i ⟨hi,ho⟩
 have hKl:=LV (ts:=ts) hi
 by_cases hlt:i<ks.length
 ·have hg:ks[i]?=some ks[i]:=List.getElem?_eq_getElem hlt
  obtain ⟨z,hz⟩:∃ z,z=ks[i]:=⟨_,rfl⟩
  have hzm:z∈ks:=by rw [hz]; exact List.getElem_mem hlt
  have hr:=hrec z hzm
  have hgi:∀ h,ks[i]'h=z:=fun _=>hz.symm
  have hnx:=EQ (ts:=ts) hlt
  have hw:=aH (n:=(i:Int)+1) (by omega) (by omega)
  rw [← hz] at hg hnx
  by_cases he:(gO ts z).2=0
  ·have hok:∀ j w,j<i+1→ks[j]?=some w→(gO ts w).2=0:=fun j w hj hjw=>by
    rcases Nat.lt_or_ge j i with c | c
    ·exact ho j w c hjw
    ·have:j=i:=by omega
     subst this
     rw [hg] at hjw
     cases hjw
     exact he
   rw [he] at hr
   generalize (gO ts z).1=kk at hr hnx
   generalize hK:oY ts ks i=K at *
   have htk:(aG K).take i=aG K:=List.take_of_length_le (by simp [hKl])
   clear hpl hin
   rcases z with ⟨zo,zc,zn,zt,zg,zk⟩
   simp [hlt,hg,hgi,Ex.c]
   (repeat' first|contradiction|exact .ok|apply And.intro|intro _|(apply gc<;>simp+contextual))
   refine aA hr (by simp [Ex.a,Ex.c]) ?_
   simp [hKl,htk,eI i (by omega) 8 (by decide),eI (i+1) (by omega) 8 (by decide)]
   (repeat' first|contradiction|exact .ok|apply And.intro|intro _|(apply gc<;>simp+contextual))
   refine ⟨i+1,⟨hlt,hok⟩,?_,by simp; omega⟩
   exact aE _ [(3,3,_),(900,34,_)] ⟨by simp,by simp,by simp [aB,Blk.live,hnx,BR],by simp⟩ (by simp [aB,hw])
  ·rw [HP ts o c n g t ks ho hg he]
   generalize (gO ts z).2=ee at *
   generalize (gO ts z).1=kk at hr
   clear hpl hin
   rcases z with ⟨zo,zc,zn,zt,zg,zk⟩
   simp [hlt,hg,hgi,Ex.c]
   (repeat' first|contradiction|exact .ok|apply And.intro|intro _|(apply gc<;>simp+contextual))
   refine aA hr (by simp [Ex.a,Ex.c]) ?_
   simp [he]
   (repeat' first|contradiction|exact .ok|apply And.intro|intro _|(apply gc<;>simp+contextual[he]))
 obtain rfl:i=ks.length:=by omega
 have hall:∀ x∈ks,(gO ts x).2=0:=fun x hx=>by
  obtain ⟨j,hj,rfl⟩:=List.getElem_of_mem hx
  exact ho j _ hj (List.getElem?_eq_getElem hj)
 have hKin:∀ x∈oY ts ks ks.length,1≤x∧x≤3:=by
  intro x hx
  rw [nX] at hx
  obtain ⟨z,hzm,rfl⟩:=List.mem_map.1 hx
  exact hin z hzm (hall z hzm)
 rw [qR ts o c n g t ks hall]
 clear hrec hi hlt ho hall hin
 generalize hK:oY ts ks ks.length=K at *
 clear hK
 have htk:(aG K).take ks.length=aG K:=List.take_of_length_le (by simp [hKl])
 simp
 (repeat' first|contradiction|exact .ok|apply And.intro|intro _|(apply gc<;>simp+contextual))
 refine aA hpl (by simp) ?_
 cases hpc:(bL o&&gJ o c n g t) with
 | false =>
   rw [show oX ts o c n g t K=(0,1) from by unfold oX; rw [if_pos hpc]]
   simp
   all_goals exact gz
 | true =>
 rw [Bool.and_eq_true] at hpc
 obtain ⟨hio,hcg⟩:=hpc
 obtain ⟨o1,o28⟩:=HN hio
 have hkd:=aCG o o1 o28 ks.length
 simp
 (repeat' first|contradiction|exact .ok|apply And.intro|intro _|(apply gc<;>simp+contextual))
 refine aA hkd (by simp) ?_
 cases hcn:bI o ks.length with
 | false =>
   rw [show oX ts o c n g t K=(0,9) from by unfold oX; rw [hio,hcg,hKl,hcn]; rfl]
   simp
   all_goals exact gz
 | true =>
 have hE:oX ts o c n g t K=if o=5∧¬ (0≤g∧g<ts.length) then (0,3) else dG ts o c g K:=by unfold oX; rw [hio,hcg,hKl,hcn]; rfl
 rw [hE,LX ts hio hcg (by rw [hKl]; exact hcn) hKin]
 clear hE hKin
 have hrs:(o=5→0≤g∧g<ts.length)→Cf En 203 [.d (.sl (aG ts)),(Ex.mk o c n t g ks).a,.d (.sl (aG K))] [] (.d (.int .i64 (dT ts o c g K))) []:=fun h5=>by
  by_cases h6:6≤o
  ·obtain ⟨rfl,rfl,rfl,rfl⟩:=aAJ h6 hcg
   exact aCI ts hts o ks K h6 o28 (by omega) (by rw [hKl]; exact hcn)
  ·obtain ⟨_,_,_,f5⟩:=HO hcn
   have hks:ks=[]:=List.eq_nil_of_length_eq_zero (f5 (by omega))
   subst hks
   have hK0:K=[]:=List.eq_nil_of_length_eq_zero (by simpa using hKl)
   subst hK0
   exact aCH ts hts o c n g t o1 (by omega) h5
 by_cases ho5:o=5
 ·subst ho5
  by_cases g0:g<0
  ·rw [if_pos ⟨rfl,by omega⟩]
   simp [g0]
   (repeat' first|contradiction|exact .ok|apply And.intro|intro _|(apply gc<;>simp+contextual[g0]))
  by_cases g1:(ts.length:Int)≤g
  ·rw [if_pos ⟨rfl,by omega⟩]
   simp [g0,g1]
   (repeat' first|contradiction|exact .ok|apply And.intro|intro _|(apply gc<;>simp+contextual[g0,g1]))
  rw [if_neg (fun h=>h.2 ⟨by omega,by omega⟩)]
  replace hrs:=hrs fun _=>⟨by omega,by omega⟩
  rw [Ex.a,Ex.c] at hrs
  generalize dT ts 5 c g K=r at *
  simp [g0,g1]
  (repeat' first|contradiction|exact .ok|apply And.intro|intro _|(apply gc<;>simp+contextual[g0,g1]))
  refine aA hrs (by simp [htk,hKl,aC]) ?_
  by_cases q1:r<1
  ·rw [if_pos (.inl q1)]
   simp [q1,hKl]
   (repeat' first|contradiction|exact .ok|apply And.intro|intro _|(apply gc<;>simp+contextual[q1]))
  ·by_cases q2:3<r
   ·rw [if_pos (.inr q2)]
    simp [q1,q2,hKl]
    (repeat' first|contradiction|exact .ok|apply And.intro|intro _|(apply gc<;>simp+contextual[q1,q2]))
   ·rw [if_neg (by omega)]
    simp [q1,q2,hKl]
    (repeat' first|contradiction|exact .ok|apply And.intro|intro _|(apply gc<;>simp+contextual[q1,q2]))
 rw [if_neg (fun h=>ho5 h.1)]
 replace hrs:=hrs fun h=>absurd h ho5
 rw [Ex.a,Ex.c] at hrs
 generalize dT ts o c g K=r at *
 simp [ho5]
 (repeat' first|contradiction|exact .ok|apply And.intro|intro _|(apply gc<;>simp+contextual[ho5]))
 refine aA hrs (by simp [htk,hKl,aC]) ?_
 by_cases q1:r<1
 ·rw [if_pos (.inl q1)]
  simp [q1,hKl]
  (repeat' first|contradiction|exact .ok|apply And.intro|intro _|(apply gc<;>simp+contextual[q1]))
 ·by_cases q2:3<r
  ·rw [if_pos (.inr q2)]
   simp [q1,q2,hKl]
   (repeat' first|contradiction|exact .ok|apply And.intro|intro _|(apply gc<;>simp+contextual[q1,q2]))
  ·rw [if_neg (by omega)]
   simp [q1,q2,hKl]
   (repeat' first|contradiction|exact .ok|apply And.intro|intro _|(apply gc<;>simp+contextual[q1,q2]))
theorem aAM {ts:List Int} (hts:ts.length≤1000):∀ (m:Nat) (e:Ex),SizeOf.sizeOf e<m→∀ q,e.few q=true→Cf Es 187 [.d (.sl (aG ts)),e.a] [] (.tup [.d (.int .i64 (gO ts e).1),.d (.int .i64 (gO ts e).2)]) []
 | 0,_,h,_,_=>absurd h (by omega)
 | m+1,.mk o c n t g ks,hm,q,hq=>by
   obtain ⟨hkl,_,hfew⟩:=gI hq
   exact aCT ts hts o c n g t ks hkl fun z hz=>aAM hts m z (by have:=Ex.kid_lt (e:=.mk o c n t g ks) (k:=z) hz; omega) (q+1) (hfew z hz)
theorem LZ {ts:List Int} (hts:ts.length≤1000):∀ (m:Nat) (e:Ex),SizeOf.sizeOf e<m→∀ q,e.few q=true→Cf En 133 [.d (.sl (aG ts)),e.a] [] (.tup [.d (.int .i64 (gO ts e).1),.d (.int .i64 (gO ts e).2)]) []
 | 0,_,h,_,_=>absurd h (by omega)
 | m+1,.mk o c n t g ks,hm,q,hq=>by
   obtain ⟨hkl,_,hfew⟩:=gI hq
   exact aAL ts hts o c n g t ks hkl fun z hz=>LZ hts m z (by have:=Ex.kid_lt (e:=.mk o c n t g ks) (k:=z) hz; omega) (q+1) (hfew z hz)
def mP (ts:List Int) (e:Ex):Int×Int:=if 200<e.size then (0,8) else if 24<(e.dep:Int) then (0,13) else gO ts e
theorem SD {ts:List Int} (hts:ts.length≤1000) {e:Ex} (hq:e.few 0=true):Cf Es 120 [.d (.sl (aG ts)),e.a] [] (.tup [.d (.int .i64 (mP ts e).1),.d (.int .i64 (mP ts e).2)]) []:=by
 refine aD cF (fn:=Tryz.f120) (by kernel_rfl) rfl (by kernel_rfl) (by decide) (by simp) ?_
 have hs:=gL (XS (SizeOf.sizeOf e+1) e (by omega) 0 hq)
 have hp:=gL (QW (SizeOf.sizeOf e+1) e (by omega) 0 hq)
 have ht:=aAM hts _ e (Nat.lt_succ_self _) 0 hq
 unfold mP
 generalize gO ts e=T at *
 generalize e.size=s at *
 generalize e.dep=d at *
 rcases e with ⟨o,c,n,t,g,ks⟩
 simp [Ex.a,Ex.c]
 (repeat' first|contradiction|exact .ok|apply And.intro|intro _|(apply gc<;>simp+contextual))
 refine aA hs (by simp [Ex.a,Ex.c]) ?_
 by_cases h2:200<s
 ·simp [h2]
  (repeat' first|contradiction|exact .ok|apply And.intro|intro _|(apply gc<;>simp+contextual[h2]))
 ·simp [h2]
  (repeat' first|contradiction|exact .ok|apply And.intro|intro _|(apply gc<;>simp+contextual[h2]))
  refine aA hp (by simp [Ex.a,Ex.c]) ?_
  by_cases h3:(24:Int)<d
  ·simp [h2,h3]
   (repeat' first|contradiction|exact .ok|apply And.intro|intro _|(apply gc<;>simp+contextual[h3]))
  ·simp [h2,h3]
   (repeat' first|contradiction|exact .ok|apply And.intro|intro _|(apply gc<;>simp+contextual[h3]))
   refine aA ht (by simp [Ex.a,Ex.c]) ?_
   simp
   (repeat' first|contradiction|exact .ok|apply And.intro|intro _|(apply gc<;>simp+contextual))
   all_goals rw [if_neg h2,if_neg h3]
theorem HQ {ts:List Int} (hts:ts.length≤1000) {e:Ex} (hq:e.few 0=true):Cf En 64 [.d (.sl (aG ts)),e.a] [] (.tup [.d (.int .i64 (mP ts e).1),.d (.int .i64 (mP ts e).2)]) []:=by
 refine aD aW (fn:=Tryz.f64) (by kernel_rfl) rfl (by kernel_rfl) (by decide) (by simp) ?_
 have hs:=GN (SizeOf.sizeOf e+1) e (by omega) (qF _ e (Nat.lt_succ_self _) 0 hq)
 have hp:=JZ (SizeOf.sizeOf e+1) e (by omega) 0 hq
 have ht:=LZ hts _ e (Nat.lt_succ_self _) 0 hq
 unfold mP
 generalize gO ts e=T at *
 generalize e.size=s at *
 generalize e.dep=d at *
 rcases e with ⟨o,c,n,t,g,ks⟩
 simp [Ex.a,Ex.c]
 (repeat' first|contradiction|exact .ok|apply And.intro|intro _|(apply gc<;>simp+contextual))
 refine aA hs (by simp [Ex.a,Ex.c]) ?_
 by_cases h2:200<s
 ·simp [h2]
  (repeat' first|contradiction|exact .ok|apply And.intro|intro _|(apply gc<;>simp+contextual[h2]))
 ·simp [h2]
  (repeat' first|contradiction|exact .ok|apply And.intro|intro _|(apply gc<;>simp+contextual[h2]))
  refine aA hp (by simp [Ex.a,Ex.c]) ?_
  by_cases h3:(24:Int)<d
  ·simp [h2,h3]
   (repeat' first|contradiction|exact .ok|apply And.intro|intro _|(apply gc<;>simp+contextual[h3]))
  ·simp [h2,h3]
   (repeat' first|contradiction|exact .ok|apply And.intro|intro _|(apply gc<;>simp+contextual[h3]))
   refine aA ht (by simp [Ex.a,Ex.c]) ?_
   simp
   (repeat' first|contradiction|exact .ok|apply And.intro|intro _|(apply gc<;>simp+contextual))
   all_goals rw [if_neg h2,if_neg h3]
end Go.Proofs.Tryz
