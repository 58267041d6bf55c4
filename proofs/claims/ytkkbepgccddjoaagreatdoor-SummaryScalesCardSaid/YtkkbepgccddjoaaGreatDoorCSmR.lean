import Derived.Test.YtkkbepgccddjoaaGreatDoorTya
import Derived.Test.YtkkbepgccddjoaaGreatDoorRsR
import Derived.Test.YtkkbepgccddjoaaGreatDoorCSty
import Derived.Test.YtkkbepgccddjoaaGreatDoorFitR
import Derived.Test.YtkkbepgccddjoaaGreatDoorAbB
set_option linter.all false
namespace Go.Proofs.Tryz
open Go.Ab
set_option maxRecDepth 100000
set_option maxHeartbeats 8000000
theorem aFj {c n g:Int} {t:List UInt8} (h:hY 1 c n g t=true):1≤c∧c≤3:=by
 have e:hY 1 c n g t=((c==1||(c==2||c==3))&&cT 0 n g t):=rfl
 rw [e] at h
 simp at h
 omega
theorem aCY {o c n g:Int} {t:List UInt8} (h6:6≤o) (h:hY o c n g t=true):c=0∧n=0∧t=[]∧g=0:=by
 have e:hY o c n g t=cT c n g t:=by unfold hY; rw [if_neg (by omega),if_neg (by omega),if_neg (by omega),if_neg (by omega),if_neg (by omega)]
 rw [e] at h
 simpa [cT] using h
theorem PX (ts:List Int) {o c n g:Int} {t:List UInt8} {K:List Int} (hio:bR o=true) (hcg:hY o c n g t=true) (hcn:bN o K.length=true) (hK:∀ x∈K,1≤x∧x≤3) :
  dK ts o c g K=if eF ts o c g K<1∨3<eF ts o c g K then (0,4) else (eF ts o c g K,0):=by
 obtain ⟨h1,h2⟩:=KX hio
 by_cases h6:6≤o
 ·exact aCW ts o c g K h6 h2 hcn hK
 ·obtain ⟨_,_,_,f5⟩:=KY hcn
  have:K=[]:=List.eq_nil_of_length_eq_zero (f5 (by omega))
  subst this
  exact aCX ts o c g h1 (by omega) (fun h=>by subst h; exact aFj hcg)
theorem PY {α β:Type} {f:α→β×Int}:∀ (l:List α),(kY f l).2 ≠ 0→∃ (i:Nat) (x:α),(∀ j y,j<i→l[j]?=some y→(f y).2=0)∧l[i]?=some x∧(f x).2 ≠ 0
 | [],h=>absurd rfl h
 | x::xs,h=>by
   by_cases hx:(f x).2=0
   ·rw [kY,if_pos hx] at h
    by_cases h2:(kY f xs).2=0
    ·rw [if_pos h2] at h; exact absurd rfl h
    ·obtain ⟨i,y,a,b,c⟩:=PY xs h2
     refine ⟨i+1,y,fun j z hj hz=>?_,by simpa using b,c⟩
     cases j with
     | zero=>simp at hz; subst hz; exact hx
     | succ j=>exact a j z (by omega) (by simpa using hz)
   ·exact ⟨0,x,fun j y hj=>absurd hj (by omega),rfl,hx⟩
theorem aCZ (ts:List Int):∀ (m:Nat) (e:Ex),SizeOf.sizeOf e<m→(iC ts e).2=0→1≤(iC ts e).1∧(iC ts e).1≤3
 | 0,_,h,_=>absurd h (by omega)
 | m+1,.mk o c n t g ks,hm,h=>by
   by_cases hz:(kY (iC ts) ks).2=0
   ·have hall:=HT ks hz
    have hk:∀ x∈qJ ts ks ks.length,1≤x∧x≤3:=by
     intro x hx
     rw [pA] at hx
     obtain ⟨z,hzm,rfl⟩:=List.mem_map.1 hx
     exact aCZ ts m z (by have:=Ex.kid_lt (e:=.mk o c n t g ks) (k:=z) hzm; omega) (hall z hzm)
    rw [sJ ts o c n g t ks hall] at h ⊢
    generalize qJ ts ks ks.length=K at *
    unfold qI at h ⊢
    split at h
    ·exact absurd h (by simp)
    rename_i h1
    rw [if_neg h1]
    split at h
    ·exact absurd h (by simp)
    rename_i h2
    rw [if_neg h2]
    split at h
    ·exact absurd h (by simp)
    rename_i h3
    rw [if_neg h3]
    simp only [Bool.not_eq_false,Bool.and_eq_true] at h1 h2
    exact aFi ts o c g K (PX ts h1.1 h1.2 h2 hk) h
   ·obtain ⟨i,x,a,b,d⟩:=PY ks hz
    rw [KZ ts o c n g t ks a b d] at h
    exact absurd h d
theorem aDa (ts:List Int) (hts:ts.length≤1000) (o c n g:Int) (t:List UInt8) (ks:List Ex) (hk:ks.length≤12)
  (hrec:∀ z∈ks,Cf En 147 [.d (.sl (aD ts)),z.a] [] (.tup [.d (.int .i64 (iC ts z).1),.d (.int .i64 (iC ts z).2)]) []) :
  Cf En 147 [.d (.sl (aD ts)),(Ex.mk o c n t g ks).a] [] (.tup [.d (.int .i64 (iC ts (.mk o c n t g ks)).1),.d (.int .i64 (iC ts (.mk o c n t g ks)).2)]) []:=by
 refine cI aW (fn:=Tryz.f147) rfl ?_
 have hpl:=aFH o c n g t ks
 have hin:∀ x∈ks,(iC ts x).2=0→1≤(iC ts x).1∧(iC ts x).1≤3:=fun x _ h=>aCZ ts _ x (Nat.lt_succ_self _) h
 rw [Ex.a] at hpl
 simp [Ex.a,Ex.c,aE] at hpl ⊢
 (repeat' first|contradiction|exact .ok|apply And.intro|intro _|(apply gc<;>simp+contextual))
 refine aL aW (fun i:Nat=>{ s:=cE [(0,.d (.sl (aD ts))),(3,.ptr 3 0 0),(6,.ref 900 0 i 1),(7,.d (.int .i64 i))],b:=cC [(3,3,.var [.d (.int .i64 o),.d (.int .i64 c),.d (.int .i64 n),.d (.str t),.d (.int .i64 g),.d (.sl (ks.map Ex.c))]),(900,900,.arr 3 1 (aD (qJ ts ks i)) false)] })
  (fun i=>i≤ks.length∧∀ j z,j<i→ks[j]?=some z→(iC ts z).2=0) (fun i=>ks.length - i) 0 (by simp)
  (fD 6 900 3 1 (by simp) (by simp) (by decide) (by decide) _ [(3,3,_),(900,900,_)] ⟨by simp,by simp,by simp [aB,Blk.live,qJ,aD],by simp⟩ (by simp [aB])) ?_
 rintro i ⟨hi,ho⟩
 have hKl:=PV (ts:=ts) hi
 by_cases hlt:i<ks.length
 ·have hg:ks[i]?=some ks[i]:=gE hlt
  obtain ⟨z,hz⟩:∃ z,z=ks[i]:=⟨_,rfl⟩
  have hzm:z∈ks:=by rw [hz]; exact List.getElem_mem hlt
  have hr:=hrec z hzm
  have hgi:∀ h,ks[i]'h=z:=fun _=>hz.symm
  have hnx:=HR (ts:=ts) hlt
  have hw:=wI (n:=(i:Int)+1)
  rw [← hz] at hg hnx
  by_cases he:(iC ts z).2=0
  ·have hok:∀ j w,j<i+1→ks[j]?=some w→(iC ts w).2=0:=fun j w hj hjw=>by
    rcases Nat.lt_or_ge j i with c | c
    ·exact ho j w c hjw
    ·have:j=i:=by omega
     subst this
     rw [hg] at hjw
     cases hjw
     exact he
   rw [he] at hr
   generalize (iC ts z).1=kk at hr hnx
   generalize hK:qJ ts ks i=K at *
   have htk:(aD K).take i=aD K:=List.take_of_length_le (by simp [hKl])
   clear hpl hin
   rcases z with ⟨zo,zc,zn,zt,zg,zk⟩
   simp [hlt,hgi,Ex.c]
   (repeat' first|contradiction|exact .ok|apply And.intro|intro _|(apply gc<;>simp+contextual))
   refine aA hr (by simp [Ex.a,Ex.c]) ?_
   simp [hKl,gF (i+1) (by omega) 8 (by decide)]
   (repeat' first|contradiction|exact .ok|apply And.intro|intro _|(apply gc<;>simp+contextual))
   refine ⟨i+1,⟨hlt,hok⟩,?_,by simp; omega⟩
   exact sM _ [(3,3,_),(900,34,_)] (by simp [aB,Blk.live,hnx,EI]) (by simp [aB,hw])
  ·rw [KZ ts o c n g t ks ho hg he]
   generalize (iC ts z).2=ee at *
   generalize (iC ts z).1=kk at hr
   clear hpl hin
   rcases z with ⟨zo,zc,zn,zt,zg,zk⟩
   simp [hlt,hgi,Ex.c]
   (repeat' first|contradiction|exact .ok|apply And.intro|intro _|(apply gc<;>simp+contextual))
   refine aA hr (by simp [Ex.a,Ex.c]) ?_
   simp [he]
   (repeat' first|contradiction|exact .ok|apply And.intro|intro _|(apply gc<;>simp+contextual[he]))
 obtain rfl:i=ks.length:=by omega
 have hall:∀ x∈ks,(iC ts x).2=0:=fun x hx=>by
  obtain ⟨j,hj,rfl⟩:=List.getElem_of_mem hx
  exact ho j _ hj (gE hj)
 have hKin:∀ x∈qJ ts ks ks.length,1≤x∧x≤3:=by
  intro x hx
  rw [pA] at hx
  obtain ⟨z,hzm,rfl⟩:=List.mem_map.1 hx
  exact hin z hzm (hall z hzm)
 rw [sJ ts o c n g t ks hall]
 clear hrec hi hlt ho hall hin
 generalize hK:qJ ts ks ks.length=K at *
 clear hK
 have htk:(aD K).take ks.length=aD K:=List.take_of_length_le (by simp [hKl])
 simp
 (repeat' first|contradiction|exact .ok|apply And.intro|intro _|(apply gc<;>simp+contextual))
 refine aP hpl ?_
 cases hpc:(bR o&&hY o c n g t) with
 | false =>
   rw [show qI ts o c n g t K=(0,1) from by unfold qI; rw [if_pos hpc]]
   simp
   all_goals exact gz
 | true =>
 rw [Bool.and_eq_true] at hpc
 obtain ⟨hio,hcg⟩:=hpc
 obtain ⟨o1,o28⟩:=KX hio
 have hkd:=aEJ o o1 o28 ks.length
 simp
 (repeat' first|contradiction|exact .ok|apply And.intro|intro _|(apply gc<;>simp+contextual))
 refine aP hkd ?_
 cases hcn:bN o ks.length with
 | false =>
   rw [show qI ts o c n g t K=(0,9) from by unfold qI; rw [hio,hcg,hKl,hcn]; rfl]
   simp
   all_goals exact gz
 | true =>
 have hE:qI ts o c n g t K=if o=5∧¬ (0≤g∧g<ts.length) then (0,3) else dK ts o c g K:=by unfold qI; rw [hio,hcg,hKl,hcn]; rfl
 rw [hE,PX ts hio hcg (by rw [hKl]; exact hcn) hKin]
 clear hE hKin
 have hrs:(o=5→0≤g∧g<ts.length)→Cf En 199 [.d (.sl (aD ts)),(Ex.mk o c n t g ks).a,.d (.sl (aD K))] [] (.d (.int .i64 (eF ts o c g K))) []:=fun h5=>by
  by_cases h6:6≤o
  ·obtain ⟨rfl,rfl,rfl,rfl⟩:=aCY h6 hcg
   exact aEL ts hts o ks K h6 o28 (by omega) (by rw [hKl]; exact hcn)
  ·obtain ⟨_,_,_,f5⟩:=KY hcn
   have hks:ks=[]:=List.eq_nil_of_length_eq_zero (f5 (by omega))
   subst hks
   have hK0:K=[]:=List.eq_nil_of_length_eq_zero (by simpa using hKl)
   subst hK0
   exact aEK ts hts o c n g t o1 (by omega) h5
 by_cases ho5:o=5
 ·subst ho5
  by_cases g0:g<0
  ·rw [if_pos ⟨rfl,by omega⟩]
   simp [g0]
   (repeat' first|contradiction|exact .ok|apply And.intro|intro _|(apply gc<;>simp+contextual[g0]))
  by_cases g1:(ts.length:Int)≤g
  ·rw [if_pos ⟨rfl,by omega⟩]
   simp [g0,g1]
   (repeat' first|contradiction|exact .ok|apply And.intro|intro _|(apply gc<;>simp+contextual[g0,g1]))
  rw [if_neg (fun h=>h.2 ⟨by omega,by omega⟩)]
  replace hrs:=hrs fun _=>⟨by omega,by omega⟩
  rw [Ex.a,Ex.c] at hrs
  generalize eF ts 5 c g K=r at *
  simp [g0,g1]
  (repeat' first|contradiction|exact .ok|apply And.intro|intro _|(apply gc<;>simp+contextual[g0,g1]))
  refine aA hrs (by simp [htk,hKl,aE]) ?_
  by_cases q1:r<1
  ·rw [if_pos (.inl q1)]
   simp [q1,hKl]
   (repeat' first|contradiction|exact .ok|apply And.intro|intro _|(apply gc<;>simp+contextual[q1]))
  ·by_cases q2:3<r
   ·rw [if_pos (.inr q2)]
    simp [q1,q2,hKl]
    (repeat' first|contradiction|exact .ok|apply And.intro|intro _|(apply gc<;>simp+contextual[q1,q2]))
   ·rw [if_neg (by omega)]
    simp [q1,q2,hKl]
    (repeat' first|contradiction|exact .ok|apply And.intro|intro _|(apply gc<;>simp+contextual[q1,q2]))
 rw [if_neg (fun h=>ho5 h.1)]
 replace hrs:=hrs fun h=>absurd h ho5
 rw [Ex.a,Ex.c] at hrs
 generalize eF ts o c g K=r at *
 simp [ho5]
 (repeat' first|contradiction|exact .ok|apply And.intro|intro _|(apply gc<;>simp+contextual[ho5]))
 refine aA hrs (by simp [htk,hKl,aE]) ?_
 by_cases q1:r<1
 ·rw [if_pos (.inl q1)]
  simp [q1,hKl]
  (repeat' first|contradiction|exact .ok|apply And.intro|intro _|(apply gc<;>simp+contextual[q1]))
 ·by_cases q2:3<r
  ·rw [if_pos (.inr q2)]
   simp [q1,q2,hKl]
   (repeat' first|contradiction|exact .ok|apply And.intro|intro _|(apply gc<;>simp+contextual[q1,q2]))
  ·rw [if_neg (by omega)]
   simp [q1,q2,hKl]
   (repeat' first|contradiction|exact .ok|apply And.intro|intro _|(apply gc<;>simp+contextual[q1,q2]))
theorem aDb {ts:List Int} (hts:ts.length≤1000):∀ (m:Nat) (e:Ex),SizeOf.sizeOf e<m→∀ q,e.few q=true→Cf Es 132 [.d (.sl (aD ts)),e.a] [] (.tup [.d (.int .i64 (iC ts e).1),.d (.int .i64 (iC ts e).2)]) []
 | 0,_,h,_,_=>absurd h (by omega)
 | m+1,.mk o c n t g ks,hm,q,hq=>by
   obtain ⟨hkl,_,hfew⟩:=hJ hq
   exact aFh ts hts o c n g t ks hkl fun z hz=>aDb hts m z (by have:=Ex.kid_lt (e:=.mk o c n t g ks) (k:=z) hz; omega) (q+1) (hfew z hz)
theorem PZ {ts:List Int} (hts:ts.length≤1000):∀ (m:Nat) (e:Ex),SizeOf.sizeOf e<m→∀ q,e.few q=true→Cf En 147 [.d (.sl (aD ts)),e.a] [] (.tup [.d (.int .i64 (iC ts e).1),.d (.int .i64 (iC ts e).2)]) []
 | 0,_,h,_,_=>absurd h (by omega)
 | m+1,.mk o c n t g ks,hm,q,hq=>by
   obtain ⟨hkl,_,hfew⟩:=hJ hq
   exact aDa ts hts o c n g t ks hkl fun z hz=>PZ hts m z (by have:=Ex.kid_lt (e:=.mk o c n t g ks) (k:=z) hz; omega) (q+1) (hfew z hz)
def tO (ts:List Int) (e:Ex):Int×Int:=if 200<e.size then (0,8) else if 24<(e.dep:Int) then (0,13) else iC ts e
theorem WM {ts:List Int} (hts:ts.length≤1000) {e:Ex} (hq:e.few 0=true):Cf Es 92 [.d (.sl (aD ts)),e.a] [] (.tup [.d (.int .i64 (tO ts e).1),.d (.int .i64 (tO ts e).2)]) []:=by
 refine cI bM (fn:=Tryz.f92) rfl ?_
 have hs:=eG (aAY (SizeOf.sizeOf e+1) e (by omega) 0 hq)
 have hp:=eG (VA (SizeOf.sizeOf e+1) e (by omega) 0 hq)
 have ht:=aDb hts _ e (Nat.lt_succ_self _) 0 hq
 unfold tO
 generalize iC ts e=T at *
 generalize e.size=s at *
 generalize e.dep=d at *
 rcases e with ⟨o,c,n,t,g,ks⟩
 simp [Ex.a,Ex.c]
 (repeat' first|contradiction|exact .ok|apply And.intro|intro _|(apply gc<;>simp+contextual))
 refine aA hs (by simp [Ex.a,Ex.c]) ?_
 by_cases h2:200<s
 ·simp [h2]
  (repeat' first|contradiction|exact .ok|apply And.intro|intro _|(apply gc<;>simp+contextual[h2]))
 ·simp [h2]
  (repeat' first|contradiction|exact .ok|apply And.intro|intro _|(apply gc<;>simp+contextual[h2]))
  refine aA hp (by simp [Ex.a,Ex.c]) ?_
  by_cases h3:(24:Int)<d
  ·simp [h2,h3]
   (repeat' first|contradiction|exact .ok|apply And.intro|intro _|(apply gc<;>simp+contextual[h3]))
  ·simp [h2,h3]
   (repeat' first|contradiction|exact .ok|apply And.intro|intro _|(apply gc<;>simp+contextual[h3]))
   refine aA ht (by simp [Ex.a,Ex.c]) ?_
   simp
   (repeat' first|contradiction|exact .ok|apply And.intro|intro _|(apply gc<;>simp+contextual))
   all_goals rw [if_neg h2,if_neg h3]
theorem WN {ts:List Int} (hts:ts.length≤1000) {e:Ex} (hq:e.few 0=true):Cf En 100 [.d (.sl (aD ts)),e.a] [] (.tup [.d (.int .i64 (tO ts e).1),.d (.int .i64 (tO ts e).2)]) []:=by
 refine cI aW (fn:=Tryz.f100) rfl ?_
 have hs:=UX (SizeOf.sizeOf e+1) e (by omega) (CS _ e (Nat.lt_succ_self _) 0 hq)
 have hp:=NP (SizeOf.sizeOf e+1) e (by omega) 0 hq
 have ht:=PZ hts _ e (Nat.lt_succ_self _) 0 hq
 unfold tO
 generalize iC ts e=T at *
 generalize e.size=s at *
 generalize e.dep=d at *
 rcases e with ⟨o,c,n,t,g,ks⟩
 simp [Ex.a,Ex.c]
 (repeat' first|contradiction|exact .ok|apply And.intro|intro _|(apply gc<;>simp+contextual))
 refine aA hs (by simp [Ex.a,Ex.c]) ?_
 by_cases h2:200<s
 ·simp [h2]
  (repeat' first|contradiction|exact .ok|apply And.intro|intro _|(apply gc<;>simp+contextual[h2]))
 ·simp [h2]
  (repeat' first|contradiction|exact .ok|apply And.intro|intro _|(apply gc<;>simp+contextual[h2]))
  refine aA hp (by simp [Ex.a,Ex.c]) ?_
  by_cases h3:(24:Int)<d
  ·simp [h2,h3]
   (repeat' first|contradiction|exact .ok|apply And.intro|intro _|(apply gc<;>simp+contextual[h3]))
  ·simp [h2,h3]
   (repeat' first|contradiction|exact .ok|apply And.intro|intro _|(apply gc<;>simp+contextual[h3]))
   refine aA ht (by simp [Ex.a,Ex.c]) ?_
   simp
   (repeat' first|contradiction|exact .ok|apply And.intro|intro _|(apply gc<;>simp+contextual))
   all_goals rw [if_neg h2,if_neg h3]
theorem oU {α:Type} {p:α→Bool}:∀ {l:List α} {i b:Nat} (h:i<l.length),p l[i]=true→∃ k:Nat,aV p l b=(b:Int)+k∧k≤i
 | x::l,0,b,h,hp=>⟨0,by rw [aV,if_pos (by simpa using hp)]; simp,Nat.le_refl _⟩
 | x::l,i+1,b,h,hp=>by
   rw [aV]
   split
   ·exact ⟨0,by simp,by omega⟩
   ·obtain ⟨k,hk,hki⟩:=oU (b:=b+1) (i:=i) (l:=l) (by simpa using h) (by simpa using hp)
    exact ⟨k+1,by rw [hk]; push_cast; omega,by omega⟩
theorem gU {nm:List UInt8→Bool} {ty:Tb→Ex→Int×Int} {x:Tb} (h:8<x.cols.length∨3<x.un.length∨3<x.fk.length∨4<x.ch.length):fB nm ty x=8:=by unfold fB; rw [if_pos h]
abbrev fN:List UInt8→Bool:=jL words
theorem aEZ (x:Tb) (hx:x.ok) (hu:∀ l∈x.un,l.length≤1000) (ty:Tb→Ex→Int×Int)
  (hty:∀ e∈x.ch,Cf Es 92 [.d (.sl (aD (x.cols.map Col.t))),e.a] [] (.tup [.d (.int .i64 (ty x e).1),.d (.int .i64 (ty x e).2)]) []) :
  Cf Es 158 [x.a] [] (.d (.int .i64 (fB fN ty x))) []:=by
 refine cI bM (fn:=Tryz.f158) rfl ?_
 have hcl:=hx.cols
 by_cases c1:8<x.cols.length
 ·have i1:(8:Int)<x.cols.length:=by omega
  rw [gU (.inl c1)]
  simp [Tb.a,Tb.c,i1]
  (repeat' first|contradiction|exact .ok|apply And.intro|intro _|(apply gc<;>simp+contextual[i1,c1]))
 have i1:¬ (8:Int)<x.cols.length:=by omega
 by_cases c2:3<x.un.length
 ·have i2:(3:Int)<x.un.length:=by omega
  rw [gU (.inr (.inl c2))]
  simp [Tb.a,Tb.c,i1,i2]
  (repeat' first|contradiction|exact .ok|apply And.intro|intro _|(apply gc<;>simp+contextual[i1,i2,c1,c2]))
 have i2:¬ (3:Int)<x.un.length:=by omega
 by_cases c3:3<x.fk.length
 ·have i3:(3:Int)<x.fk.length:=by omega
  rw [gU (.inr (.inr (.inl c3)))]
  simp [Tb.a,Tb.c,i1,i2,i3]
  (repeat' first|contradiction|exact .ok|apply And.intro|intro _|(apply gc<;>simp+contextual[i1,i2,i3,c1,c2,c3]))
 have i3:¬ (3:Int)<x.fk.length:=by omega
 by_cases c4:4<x.ch.length
 ·have i4:(4:Int)<x.ch.length:=by omega
  rw [gU (.inr (.inr (.inr c4)))]
  simp [Tb.a,Tb.c,i1,i2,i3,i4]
  (repeat' first|contradiction|exact .ok|apply And.intro|intro _|(apply gc<;>simp+contextual[i1,i2,i3,i4,c1,c2,c3,c4]))
 have i4:¬ (4:Int)<x.ch.length:=by omega
 have hR:∀ z:Int,fB fN ty x=z↔(if x.cols.length=0 then 9 else fI (bG (mY fN x.cols) x.cols 0) (fI (gD x) (bG (fun _=>mZ (ty x)) x.ch 0)))=z:=fun z=>by
  unfold fB
  rw [if_neg (by omega)]
 generalize hT:fB fN ty x=T at *
 have hR2:=(hR T).1 rfl
 clear hR hT
 by_cases c0:x.cols.length=0
 ·have i0:(x.cols.length:Int)=0:=by omega
  rw [if_pos c0] at hR2
  rw [← hR2]
  simp [Tb.a,Tb.c,i2,i3,i4,c0]
  (repeat' first|contradiction|exact .ok|apply And.intro|intro _|(apply gc<;>simp+contextual[i1,i2,i3,i4,c1,c2,c3,c4,i0,c0]))
 have i0:¬ (x.cols.length:Int)=0:=by omega
 rw [if_neg c0] at hR2
 simp [Tb.a,Tb.c,i1,i2,i3,i4,c0]
 (repeat' first|contradiction|exact .ok|apply And.intro|intro _|(apply gc<;>simp+contextual[i1,i2,i3,i4,c1,c2,c3,c4,i0,c0]))
 clear i1 i2 i3 i4 c1 c2 c3 c4 i0 c0
 refine aL bM (fun i:Nat=>{ s:=cE [(1,.ptr 1 0 0),(41,.d (.sl (x.cols.map Col.c))),(42,.d (.int .i64 x.cols.length)),(43,.d (.int .i64 i))],b:=cC [(1,1,.var (x.c.map AV.d))] }) (fun i=>i≤x.cols.length∧bG (mY fN x.cols) (x.cols.drop i) i=bG (mY fN x.cols) x.cols 0) (fun i=>x.cols.length - i) 0 (by simp)
  (sM _ [(1,1,_)] (by simp [aB,Blk.live,Tb.c]) (by simp [aB])) ?_
 rintro i ⟨hi,hf⟩
 by_cases hlt:i<x.cols.length
 ·rw [eL hlt] at hf
  have hw:=wI (n:=(i:Int)+1)
  obtain ⟨c,hc⟩:∃ c,c=x.cols[i]:=⟨_,rfl⟩
  have hgi:∀ h,x.cols[i]'h=c:=fun _=>hc.symm
  obtain ⟨k,hk,hki⟩:=oU (p:=fun d:Col=>d.n==c.n) (b:=0) hlt (by rw [← hc]; simp)
  have hk':aV (fun d:Col=>d.n==c.n) x.cols 0=k:=by rw [hk]; simp
  rw [← hc] at hf
  have hbad:∀ z:Int,mY fN x.cols i c=z→z ≠ 0→T=z:=fun z h h0=>by
   rw [h,if_pos h0] at hf
   rw [← hR2,← hf,fK h0]
  have hgood:mY fN x.cols i c=0→bG (mY fN x.cols) (x.cols.drop (i+1)) (i+1)=bG (mY fN x.cols) x.cols 0:=fun h=>by
   rw [h,if_neg (by simp)] at hf
   exact hf
  have hE:mY fN x.cols i c=if fN c.n=false then 3 else if (k:Int)<i then 5 else if c.t=1∨c.t=2∨c.t=3 then 0 else 4:=by unfold mY; rw [hk']
  generalize mY fN x.cols i c=E at *
  simp [hlt,hgi,Col.c]
  (repeat' first|contradiction|exact .ok|apply And.intro|intro _|(apply gc<;>simp+contextual))
  refine aP (aBt c.n) ?_
  cases hn:fN c.n with
  | false =>
    rw [hn,if_pos rfl] at hE
    rw [hbad 3 hE (by decide)]
    simp [hn]
    (repeat' first|contradiction|exact .ok|apply And.intro|intro _|(apply gc<;>simp+contextual[hn]))
  | true =>
    rw [hn,if_neg (by decide)] at hE
    simp [hn,Tb.c]
    (repeat' first|contradiction|exact .ok|apply And.intro|intro _|(apply gc<;>simp+contextual[hn]))
    refine aA (eG (aCx x (by omega) c.n)) (by simp [Tb.a,Tb.c]) ?_
    rw [cN hk']
    by_cases hki2:k<i
    ·rw [if_pos (by omega)] at hE
     rw [hbad 5 hE (by decide)]
     simp [hki2]
     (repeat' first|contradiction|exact .ok|apply And.intro|intro _|(apply gc<;>simp+contextual[hki2]))
    ·rw [if_neg (by omega)] at hE
     have hki3:¬ (k:Int)<i:=by omega
     by_cases t1:c.t=1
     ·rw [if_pos (.inl t1)] at hE
      simp [hki3,t1]
      (repeat' first|contradiction|exact .ok|apply And.intro|intro _|(apply gc<;>simp+contextual[t1]))
      refine ⟨i+1,⟨by omega,hgood hE⟩,?_,by simp; omega⟩
      exact sM _ [(1,1,_)] (by simp [aB,Blk.live]) (by simp [aB,hw])
     by_cases t2:c.t=2
     ·rw [if_pos (.inr (.inl t2))] at hE
      simp [hki3,t2]
      (repeat' first|contradiction|exact .ok|apply And.intro|intro _|(apply gc<;>simp+contextual[t1,t2]))
      refine ⟨i+1,⟨by omega,hgood hE⟩,?_,by simp; omega⟩
      exact sM _ [(1,1,_)] (by simp [aB,Blk.live]) (by simp [aB,hw])
     by_cases t3:c.t=3
     ·rw [if_pos (.inr (.inr t3))] at hE
      simp [hki3,t3]
      (repeat' first|contradiction|exact .ok|apply And.intro|intro _|(apply gc<;>simp+contextual[t1,t2,t3]))
      refine ⟨i+1,⟨by omega,hgood hE⟩,?_,by simp; omega⟩
      exact sM _ [(1,1,_)] (by simp [aB,Blk.live]) (by simp [aB,hw])
     ·rw [if_neg (by omega)] at hE
      rw [hbad 4 hE (by decide)]
      simp [hki3,t1,t2,t3]
      (repeat' first|contradiction|exact .ok|apply And.intro|intro _|(apply gc<;>simp+contextual[t1,t2,t3]))
 obtain rfl:i=x.cols.length:=by omega
 rw [fJ (Nat.le_refl _)] at hf
 rw [← hf,eY] at hR2
 clear hf hi hlt
 simp [Tb.c]
 (repeat' first|contradiction|exact .ok|apply And.intro|intro _|(apply gc<;>simp+contextual))
 refine aA (eG (aGK x hx hu)) (by simp [Tb.a,Tb.c]) ?_
 by_cases hk:gD x=0
 rotate_left
 ·rw [fK hk] at hR2
  rw [← hR2]
  simp [hk]
  (repeat' first|contradiction|exact .ok|apply And.intro|intro _|(apply gc<;>simp+contextual[hk]))
 rw [hk,eY] at hR2
 simp [hk]
 (repeat' first|contradiction|exact .ok|apply And.intro|intro _|(apply gc<;>simp+contextual))
 have hhl:=hx.ch
 refine aL bM (fun i:Nat=>{ s:=cE [(1,.ptr 1 0 0),(82,.d (.sl (x.ch.map Ex.c))),(83,.d (.int .i64 x.ch.length)),(84,.d (.int .i64 i))],b:=cC [(1,1,.var (x.c.map AV.d))] }) (fun i=>i≤x.ch.length∧bG (fun _=>mZ (ty x)) (x.ch.drop i) i=bG (fun _=>mZ (ty x)) x.ch 0) (fun i=>x.ch.length - i) 0 (by simp)
  (sM _ [(1,1,_)] (by simp [aB,Blk.live,Tb.c]) (by simp [aB])) ?_
 rintro i ⟨hi,hf⟩
 by_cases hlt:i<x.ch.length
 ·rw [eL hlt] at hf
  have hw:=wI (n:=(i:Int)+1)
  obtain ⟨e,he⟩:∃ e,e=x.ch[i]:=⟨_,rfl⟩
  have hgi:∀ h,x.ch[i]'h=e:=fun _=>he.symm
  have hem:e∈x.ch:=by rw [he]; exact List.getElem_mem hlt
  rw [← he] at hf
  have hte:=hty e hem
  have hC:mZ (ty x) e=(if (ty x e).2 ≠ 0 then (ty x e).2 else if (ty x e).1 ≠ 2 then 4 else 0):=rfl
  have hbad:mZ (ty x) e ≠ 0→T=mZ (ty x) e:=fun h0=>by
   rw [if_pos h0] at hf
   rw [← hR2,← hf]
  have hgood:mZ (ty x) e=0→bG (fun _=>mZ (ty x)) (x.ch.drop (i+1)) (i+1)=bG (fun _=>mZ (ty x)) x.ch 0:=fun h=>by
   rw [h,if_neg (by simp)] at hf
   exact hf
  generalize mZ (ty x) e=F at hC hbad hgood
  clear hf
  rcases e with ⟨o,c,n,t,g,ks⟩
  simp [hlt,hgi,Ex.c,Tb.c]
  (repeat' first|contradiction|exact .ok|apply And.intro|intro _|(apply gc<;>simp+contextual))
  refine aA (eG (aFa x hx)) (by simp [Tb.a,Tb.c]) ?_
  simp
  (repeat' first|contradiction|exact .ok|apply And.intro|intro _|(apply gc<;>simp+contextual))
  refine aA hte (by simp [Ex.a,Ex.c]) ?_
  generalize hE:ty x (.mk o c n t g ks)=E at *
  by_cases h2:E.2=0
  rotate_left
  ·rw [if_pos h2] at hC
   rw [hbad (by rw [hC]; exact h2),hC]
   simp [h2]
   (repeat' first|contradiction|exact .ok|apply And.intro|intro _|(apply gc<;>simp+contextual[h2]))
  rw [if_neg (by simpa using h2)] at hC
  by_cases h1:E.1=2
  ·rw [if_neg (by simpa using h1)] at hC
   simp [h1,h2]
   (repeat' first|contradiction|exact .ok|apply And.intro|intro _|(apply gc<;>simp+contextual[h1,h2]))
   refine ⟨i+1,⟨by omega,hgood hC⟩,?_,by simp; omega⟩
   exact sM _ [(1,1,_)] (by simp [aB,Blk.live]) (by simp [aB,hw])
  ·rw [if_pos h1] at hC
   rw [hbad (by rw [hC]; decide),hC]
   simp [h1,h2]
   (repeat' first|contradiction|exact .ok|apply And.intro|intro _|(apply gc<;>simp+contextual[h1,h2]))
 obtain rfl:i=x.ch.length:=by omega
 rw [fJ (Nat.le_refl _)] at hf
 rw [← hR2,← hf]
 simp
 all_goals exact gz
mutual
def Ex.eq:Ex→Ex→Bool
 | .mk o c n t g ks,.mk o' c' n' t' g' ks'=>o==o'&&(c==c'&&(n==n'&&(t==t'&&(g==g'&&fM ks ks'))))
def fM:List Ex→List Ex→Bool
 | [],[]=>true
 | e::es,f::fs=>e.eq f&&fM es fs
 | [],_::_=>false
 | _::_,[]=>false
end
theorem xU:∀ (a b:List Ex),a.length ≠ b.length→fM a b=false
 | [],[],h=>absurd rfl h
 | [],_::_,_=>by rw [fM]
 | _::_,[],_=>by rw [fM]
 | e::es,f::fs,h=>by rw [fM,xU es fs (by simpa using h)]; simp
theorem DT {a b:List Ex} {i:Nat} {x y:Ex} (h1:a[i]?=some x) (h2:b[i]?=some y):fM (a.drop i) (b.drop i)=(x.eq y&&fM (a.drop (i+1)) (b.drop (i+1))):=by
 obtain ⟨hi,rfl⟩:=List.getElem?_eq_some_iff.1 h1
 obtain ⟨hj,rfl⟩:=List.getElem?_eq_some_iff.1 h2
 rw [List.drop_eq_getElem_cons hi,List.drop_eq_getElem_cons hj,fM]
theorem HH {a b:List Ex} {i:Nat} (h1:a.length≤i) (h2:b.length≤i):fM (a.drop i) (b.drop i)=true:=by
 rw [List.drop_eq_nil_of_le h1,List.drop_eq_nil_of_le h2,fM]
mutual
theorem Ex.eq_self:∀ e:Ex,e.eq e=true
 | .mk o c n t g ks=>by rw [Ex.eq,DU ks]; simp
theorem DU:∀ l:List Ex,fM l l=true
 | []=>by rw [fM]
 | e::es=>by rw [fM,e.eq_self,DU es]; rfl
end
theorem KN:∀ (m:Nat) (x y:Ex),SizeOf.sizeOf x<m→x.fits→Cf En 203 [x.a,y.a] [] (.d (.bool (x.eq y))) []
 | 0,_,_,h,_=>absurd h (by omega)
 | m+1,.mk o c n t g ks,.mk o' c' n' t' g' ks',hm,hfit=>by
   refine cI aW (fn:=Tryz.f203) rfl ?_
   rw [Ex.fits] at hfit
   have he:(Ex.mk o c n t g ks).eq (.mk o' c' n' t' g' ks')=(o==o'&&(c==c'&&(n==n'&&(t==t'&&(g==g'&&fM ks ks'))))):=by rw [Ex.eq]
   rw [he]
   by_cases h1:o=o'
   ·by_cases h2:c=c'
    ·by_cases h3:n=n'
     ·by_cases h4:t=t'
      ·by_cases h5:g=g'
       ·by_cases h6:ks.length=ks'.length
        ·have h6':(ks.length:Int)=ks'.length:=by omega
         subst h1 h2 h3 h4 h5
         have hr:(o==o&&(c==c&&(n==n&&(t==t&&(g==g&&fM ks ks')))))=fM ks ks':=by simp
         rw [hr]
         generalize hres:fM ks ks'=res
         simp [Ex.a,Ex.c,aE,h6]
         refine ⟨.of (by kernel_rfl),.of (by kernel_rfl),.of (by kernel_rfl),?_⟩
         refine aL aW (fun i:Nat=>{ s:=cE [(2,.ptr 2 0 0),(3,.ptr 3 0 0),(5,.d (.int .i64 i))],b:=cC [(2,2,.var (Ex.a (.mk o c n t g ks)).cells),(3,3,.var (Ex.a (.mk o c n t g ks')).cells)] }) (fun i:Nat=>i≤ks'.length∧fM (ks.drop i) (ks'.drop i)=res) (fun i=>ks'.length - i) 0 (by simp [hres]) (aI _ _ ⟨by simp,by simp,by simp [aB,Blk.live,Ex.a,Ex.c,aE],by simp⟩ (by simp [aB])) ?_
         rintro i ⟨hi,ho⟩
         by_cases hlt:i<ks'.length
         ·have hlt':(i:Int)<ks'.length:=by omega
          have hla:i<ks.length:=by omega
          have hg:ks[i]?=some ks[i]:=gE hla
          have hg2:ks'[i]?=some ks'[i]:=gE hlt
          have hd:=DT hg hg2
          have c1:=Ex.clen ks[i]
          have c2:=Ex.clen ks'[i]
          have k1:=Ex.ctake ks[i]
          have k2:=Ex.ctake ks'[i]
          have hkid:SizeOf.sizeOf ks[i]<m:=by
           have:=Ex.kid_lt (e:=.mk o c n t g ks) (k:=ks[i]) (List.getElem_mem hla)
           omega
          simp [Ex.a,Ex.c,aE,h6,hlt,hlt',c1,c2,k1,k2]
          refine ⟨.of (by kernel_rfl),aA (KN m ks[i] ks'[i] hkid (nJ ks hfit.2 _ (List.getElem_mem hla))) (by simp [Ex.a]) ?_⟩
          simp
          refine ⟨.of (by kernel_rfl),fun h=>⟨.of (by kernel_rfl),?_⟩,fun h=>⟨.of (by kernel_rfl),i+1,⟨hlt,?_⟩,?_,?_⟩⟩
          ·rw [← ho,hd,h]; rfl
          ·rw [← ho,hd,h]; rfl
          ·refine sM _ [(2,2,_),(3,3,_)] (by simp [aB,Blk.live,aE]) ?_
           simp [aB]
           exact bL (by omega) (by omega)
          ·simp; omega
         ·have hlt':¬ (i:Int)<ks'.length:=by omega
          simp [Ex.a,Ex.c,aE,h6,hlt,hlt']
          refine ⟨.of (by kernel_rfl),.of (by kernel_rfl),?_⟩
          rw [← ho,HH (by omega) (by omega)]
        ·have h6':¬ (ks.length:Int)=ks'.length:=by omega
         rw [xU ks ks' h6]
         simp [Ex.a,Ex.c,aE,h1,h2,h3,h4,h5,h6']
         exact ⟨.of (by kernel_rfl),.of (by kernel_rfl),.of (by kernel_rfl)⟩
       ·have h5':(g==g')=false:=by simp [h5]
        have h5n:(g != g')=true:=by simp [h5]
        simp [Ex.a,Ex.c,aE,h1,h2,h3,h4,h5',h5n]
        exact ⟨.of (by kernel_rfl),.of (by kernel_rfl),.of (by kernel_rfl)⟩
      ·have h4':(t==t')=false:=by simp [h4]
       have h4n:(!(t==t'))=true:=by simp [h4]
       simp [Ex.a,Ex.c,aE,h1,h2,h3,h4']
       exact ⟨.of (by kernel_rfl),.of (by kernel_rfl),.of (by kernel_rfl)⟩
     ·have h3':(n==n')=false:=by simp [h3]
      have h3n:(n != n')=true:=by simp [h3]
      simp [Ex.a,Ex.c,aE,h1,h2,h3',h3n]
      exact ⟨.of (by kernel_rfl),.of (by kernel_rfl),.of (by kernel_rfl)⟩
    ·have h2':(c==c')=false:=by simp [h2]
     have h2n:(c != c')=true:=by simp [h2]
     simp [Ex.a,Ex.c,aE,h1,h2',h2n]
     exact ⟨.of (by kernel_rfl),.of (by kernel_rfl),.of (by kernel_rfl)⟩
   ·have h1':(o==o')=false:=by simp [h1]
    have h1n:(o != o')=true:=by simp [h1]
    simp [Ex.a,Ex.c,aE,h1',h1n]
    exact ⟨.of (by kernel_rfl),.of (by kernel_rfl),.of (by kernel_rfl)⟩
end Go.Proofs.Tryz
