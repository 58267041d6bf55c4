import Derived.Test.YthbnleoonldffaaGreatDoorQSky
import Derived.Test.YthbnleoonldffaaGreatDoorQSfi
import Derived.Test.YthbnleoonldffaaGreatDoorRev
import Derived.Test.YthbnleoonldffaaGreatDoorFitR
import Derived.Test.YthbnleoonldffaaGreatDoorQExp
set_option linter.all false
namespace Go.Proofs.Tryz
open Go.Ab
set_option maxRecDepth 100000
set_option maxHeartbeats 8000000
@[simp] theorem At.clen (x:At):x.c.length=5:=rfl
def At.cmp (a b:At):Int:=if a.col<b.col then -1 else if b.col<a.col then 1 else if a.op<b.op then -1 else if b.op<a.op then 1 else a.v.cmp b.v
theorem zU (x:At):Cf En 46 [x.a] [] x.ex.a []:=by
 refine aD aW (fn:=Tryz.f46) (by kernel_rfl) rfl (by kernel_rfl) (by decide) (by simp) ?_
 by_cases h5:x.op=5
 ·simp [At.a,At.c,h5,At.ex,eA,Ex.a,Ex.c,cA]
  (repeat' first|contradiction|exact .ok|apply And.intro|intro _|(apply gc<;>simp+contextual[h5]))
 by_cases h21:x.op=21
 ·simp [At.a,At.c,h21,At.ex,eA,Ex.a,Ex.c,cA]
  (repeat' first|contradiction|exact .ok|apply And.intro|intro _|(apply gc<;>simp+contextual[h21]))
 simp [At.a,At.c,h5,h21]
 (repeat' first|contradiction|exact .ok|apply And.intro|intro _|(apply gc<;>simp+contextual[h5,h21]))
 refine aA (aBu x.v 0) (by simp [V.a]) ?_
 simp [At.ex,eA,Ex.a,Ex.c,cA,h5,h21,Ex.clen,Ex.ctake']
 (repeat' first|contradiction|exact .ok|apply And.intro|intro _|(apply gc<;>simp+contextual[h5,h21]))
 all_goals exact List.take_of_length_le (by simp [Ex.clen])
theorem XB (x:At):Cf En 335 [x.a] [] x.ex.a []:=by
 refine aD aW (fn:=Tryz.f335) (by kernel_rfl) rfl (by kernel_rfl) (by decide) (by simp) ?_
 by_cases h5:x.op=5
 ·simp [At.a,At.c,h5,At.ex,eA,Ex.a,Ex.c,cA]
  (repeat' first|contradiction|exact .ok|apply And.intro|intro _|(apply gc<;>simp+contextual[h5]))
 by_cases h21:x.op=21
 ·simp [At.a,At.c,h21,At.ex,eA,Ex.a,Ex.c,cA]
  (repeat' first|contradiction|exact .ok|apply And.intro|intro _|(apply gc<;>simp+contextual[h21]))
 simp [At.a,At.c,h5,h21]
 (repeat' first|contradiction|exact .ok|apply And.intro|intro _|(apply gc<;>simp+contextual[h5,h21]))
 refine aA (aBt x.v 0) (by simp [V.a]) ?_
 simp [At.ex,eA,Ex.a,Ex.c,cA,h5,h21,Ex.clen,Ex.ctake']
 (repeat' first|contradiction|exact .ok|apply And.intro|intro _|(apply gc<;>simp+contextual[h5,h21]))
 all_goals exact List.take_of_length_le (by simp [Ex.clen])
theorem QM (x y:At):Cf En 283 [x.a,y.a] [] (.d (.int .i64 (x.cmp y))) []:=by
 refine aD aW (fn:=Tryz.f283) (by kernel_rfl) rfl (by kernel_rfl) (by decide) (by simp) ?_
 simp [At.a,At.c]
 (repeat' first|contradiction|exact .ok|apply And.intro|intro _|(apply gc<;>simp+contextual))
 all_goals first | (unfold At.cmp; grind) | skip
 refine aA (rG x.v y.v) (by simp [V.a]) ?_
 simp
 (repeat' first|contradiction|exact .ok|apply And.intro|intro _|(apply gc<;>simp+contextual))
 all_goals (unfold At.cmp; grind)
theorem NZ {x:At} (h:x.v.t.length≤200) (q:Nat) (hq:q≤50):x.ex.few q=true:=by
 have e:∀ c,(eA c).few (q+1)=true:=fun c=>by
  rw [eA,Ex.few,fL,if_neg (by omega),if_neg (by simp),if_neg (by simp)]
 have e0:∀ c,(eA c).few q=true:=fun c=>by
  rw [eA,Ex.few,fL,if_neg (by omega),if_neg (by simp),if_neg (by simp)]
 have k:(bO x.v 0).few (q+1)=true:=by
  unfold bO
  repeat' split
  all_goals (rw [Ex.few,fL,if_neg (by omega),if_neg (by simp),if_neg (by simp <;> omega)])
 unfold At.ex
 repeat' split
 ·exact e0 _
 ·rw [Ex.few,if_neg (by omega),if_neg (by simp),if_neg (by simp)]
  simp [fL,e]
 ·rw [Ex.few,if_neg (by omega),if_neg (by simp),if_neg (by simp)]
  simp [fL,e,k]
def uE (a:At):List At→Nat
 | []=>0
 | x::xs=>if x.cmp a<0 then uE a xs+1 else 0
def ON (a:At) (l:List At):Bool:=match l[uE a l]? with
 | some x=>x.cmp a==0
 | none=>false
def xH (l:List At) (a:At):List At:=if ON a l=true then l else l.take (uE a l)++a::l.drop (uE a l)
theorem QY (a:At):∀ l:List At,uE a l≤l.length
 | []=>by simp [uE]
 | u::us=>by have:=QY a us; simp only [uE,List.length_cons]; split <;> omega
theorem UE {a:At} {l:List At} {i:Nat} (h:i<l.length):uE a (l.drop i)=if l[i].cmp a<0 then uE a (l.drop (i+1))+1 else 0:=by
 rw [List.drop_eq_getElem_cons h,uE]
theorem YB (l:List At) (a:At):(xH l a).length≤l.length+1:=by
 have:=QY a l
 unfold xH
 split
 ·omega
 ·simp; omega
@[simp] theorem aFP (l:List At):((l.map At.c).all fun x=>x.length==5)=true:=by simp [At.clen]
@[simp] theorem aFQ (l:List At) (n:Nat):(∀ x,x∈List.take n (l.map At.c)→x.length=5)=True:=eq_true fun x hx=>by
  obtain ⟨a,_,rfl⟩:=List.mem_map.1 (List.mem_of_mem_take hx)
  rfl
@[simp] theorem aFR (l:List At) (n:Nat):(∀ x,x∈List.drop n (l.map At.c)→x.length=5)=True:=eq_true fun x hx=>by
  obtain ⟨a,_,rfl⟩:=List.mem_map.1 (List.mem_of_mem_drop hx)
  rfl
@[simp] theorem aGC (l:List At):(∀ x,x∈l.map At.c→x.length=5)=True:=eq_true fun x hx=>by
  obtain ⟨a,_,rfl⟩:=List.mem_map.1 hx
  rfl
theorem OO (l:List At) (hl:l.length≤1000) (a:At):Cf En 206 [.d (.sl (l.map At.c)),a.a] [] (.d (.sl ((xH l a).map At.c))) []:=by
 refine aD aW (fn:=Tryz.f206) (by kernel_rfl) rfl (by kernel_rfl) (by decide) (by simp) ?_
 simp [At.a]
 (repeat' first|contradiction|exact .ok|apply And.intro|intro _|(apply gc<;>simp+contextual))
 refine aL aW (by decide) (fun i:Nat=>{ s:=cG [(0,.d (.sl (l.map At.c))),(3,.ptr 3 0 0),(5,.d (.int .i64 i))],b:=cE [(3,3,.var (a.c.map AV.d))] }) (fun i=>i≤l.length∧uE a (l.drop i)+i=uE a l) (fun i=>l.length - i) 0 (by simp) (aE _ [(3,3,_)] ⟨by simp,by simp,by simp [aB,Blk.live],by simp⟩ (by simp [aB])) ?_
 rintro i ⟨hi,hp⟩
 by_cases hlt:i<l.length
 ·have hd:=UE (a:=a) hlt
  rw [hd] at hp
  have hw:=aH (n:=(i:Int)+1) (by omega) (by omega)
  simp [hlt,At.c]
  (repeat' first|contradiction|exact .ok|apply And.intro|intro _|(apply gc<;>simp+contextual))
  refine aA (QM l[i] a) (by simp [At.a,At.c]) ?_
  by_cases hc:l[i].cmp a<0
  ·rw [if_pos hc] at hp
   simp [hc]
   (repeat' first|contradiction|exact .ok|apply And.intro|intro _|(apply gc<;>simp+contextual))
   refine ⟨i+1,⟨by omega,by omega⟩,?_,by simp; omega⟩
   refine aE _ [(3,3,_)] ⟨by simp,by simp,by simp [aB,Blk.live,At.c],by simp⟩ (by simp [aB,hw])
  ·rw [if_neg hc] at hp
   have hpi:uE a l=i:=by omega
   simp [hc,hlt]
   (repeat' first|contradiction|exact .ok|apply And.intro|intro _|(apply gc<;>simp+contextual))
   refine aA (QM l[i] a) (by simp [At.a,At.c]) ?_
   by_cases h0:l[i].cmp a=0
   ·have hh:ON a l=true:=by unfold ON; rw [hpi,List.getElem?_eq_getElem hlt]; simp [h0]
    simp [h0,xH,hh]
    all_goals exact gz
   ·have hh:ON a l=false:=by unfold ON; rw [hpi,List.getElem?_eq_getElem hlt]; simp [h0]
    have e1:xH l a=l.take i++a::l.drop i:=by simp [xH,hh,hpi]
    have hm:min i l.length=i:=by omega
    simp [h0,e1,hm,hi,At.c,eI i (by omega) 48 (by decide),eI (i+1) (by omega) 48 (by decide),eI (i+1+(l.length - i)) (by omega) 48 (by decide)]
    (repeat' first|contradiction|exact .ok|apply And.intro|intro _|(apply gc<;>simp+contextual))
    all_goals (rw [if_pos (by omega),List.take_of_length_le (by simp; omega)])
 ·have hie:i=l.length:=by omega
  subst hie
  rw [List.drop_length,uE] at hp
  have hh:ON a l=false:=by unfold ON; rw [← hp]; simp
  have e1:xH l a=l++[a]:=by simp [xH,hh,← hp]
  simp [e1,At.c,eI l.length (by omega) 48 (by decide),eI (l.length+1) (by omega) 48 (by decide)]
  (repeat' first|contradiction|exact .ok|apply And.intro|intro _|(apply gc<;>simp+contextual))
  all_goals exact List.take_of_length_le (by simp <;> omega)
@[simp] theorem aGx (v:V):v.c.length=3:=rfl
@[simp] theorem aGy (l:List V) (n:Nat):(∀ x,x∈List.take n (l.map V.c)→x.length=3)=True:=eq_true fun x hx=>by
  obtain ⟨a,_,rfl⟩:=List.mem_map.1 (List.mem_of_mem_take hx)
  rfl
@[simp] theorem aGz (l:List V) (n:Nat):(∀ x,x∈List.drop n (l.map V.c)→x.length=3)=True:=eq_true fun x hx=>by
  obtain ⟨a,_,rfl⟩:=List.mem_map.1 (List.mem_of_mem_drop hx)
  rfl
def cN (c n g:Int) (t:List UInt8):Bool:=c==0&&(n==0&&(t==[]&&g==0))
def gJ (o c n g:Int) (t:List UInt8):Bool :=
 if o=1 then (c==1||(c==2||c==3))&&cN 0 n g t
 else if o=2 then V.valid ⟨1,n,[]⟩&&cN c 0 g t
 else if o=3 then V.valid ⟨2,n,[]⟩&&cN c 0 g t
 else if o=4 then V.valid ⟨3,0,t⟩&&cN c n g []
 else if o=5 then cN c n 0 t
 else cN c n g t
theorem aDp (o c n g:Int) (t:List UInt8) (ks:List Ex):Cf En 257 [(Ex.mk o c n t g ks).a] [] (.d (.bool (gJ o c n g t))) []:=by
 refine aD aW (fn:=Tryz.f257) (by kernel_rfl) rfl (by kernel_rfl) (by decide) (by simp) ?_
 by_cases h1:o=1
 ·subst h1
  have e:gJ 1 c n g t=((c==1||(c==2||c==3))&&cN 0 n g t):=rfl
  rw [e]
  clear e
  simp [Ex.a,Ex.c,aC]
  (repeat' first|contradiction|exact .ok|apply And.intro|intro _|(apply gc<;>simp+contextual))
  refine aA (AE c) (by simp [V.a]) ?_
  generalize (c==1||(c==2||c==3))=Q
  cases Q
  ·simp
   all_goals exact gz
  by_cases a2:n=0
  ·by_cases a3:t=[]
   ·simp [a2,a3,cN]
    (repeat' first|contradiction|exact .ok|apply And.intro|intro _|(apply gc<;>simp+contextual[a2,a3]))
   ·simp [a2,a3,cN]
    (repeat' first|contradiction|exact .ok|apply And.intro|intro _|(apply gc<;>simp+contextual[a2,a3]))
  ·simp [a2,cN]
   (repeat' first|contradiction|exact .ok|apply And.intro|intro _|(apply gc<;>simp+contextual[a2]))
 by_cases h2:o=2
 ·subst h2
  have e:gJ 2 c n g t=(V.valid ⟨1,n,[]⟩&&cN c 0 g t):=rfl
  rw [e]
  clear e
  simp [Ex.a,Ex.c,aC]
  (repeat' first|contradiction|exact .ok|apply And.intro|intro _|(apply gc<;>simp+contextual))
  refine aA (jG ⟨1,n,[]⟩) (by simp [V.a]) ?_
  generalize V.valid ⟨1,n,[]⟩=Q
  cases Q
  ·simp
   all_goals exact gz
  by_cases a2:c=0
  ·by_cases a3:t=[]
   ·simp [a2,a3,cN]
    (repeat' first|contradiction|exact .ok|apply And.intro|intro _|(apply gc<;>simp+contextual[a2,a3]))
   ·simp [a2,a3,cN]
    (repeat' first|contradiction|exact .ok|apply And.intro|intro _|(apply gc<;>simp+contextual[a2,a3]))
  ·simp [a2,cN]
   (repeat' first|contradiction|exact .ok|apply And.intro|intro _|(apply gc<;>simp+contextual[a2]))
 by_cases h3:o=3
 ·subst h3
  have e:gJ 3 c n g t=(V.valid ⟨2,n,[]⟩&&cN c 0 g t):=rfl
  rw [e]
  clear e
  simp [Ex.a,Ex.c,aC]
  (repeat' first|contradiction|exact .ok|apply And.intro|intro _|(apply gc<;>simp+contextual))
  refine aA (jG ⟨2,n,[]⟩) (by simp [V.a]) ?_
  generalize V.valid ⟨2,n,[]⟩=Q
  cases Q
  ·simp
   all_goals exact gz
  by_cases a2:c=0
  ·by_cases a3:t=[]
   ·simp [a2,a3,cN]
    (repeat' first|contradiction|exact .ok|apply And.intro|intro _|(apply gc<;>simp+contextual[a2,a3]))
   ·simp [a2,a3,cN]
    (repeat' first|contradiction|exact .ok|apply And.intro|intro _|(apply gc<;>simp+contextual[a2,a3]))
  ·simp [a2,cN]
   (repeat' first|contradiction|exact .ok|apply And.intro|intro _|(apply gc<;>simp+contextual[a2]))
 by_cases h4:o=4
 ·subst h4
  have e:gJ 4 c n g t=(V.valid ⟨3,0,t⟩&&cN c n g []):=rfl
  rw [e]
  clear e
  simp [Ex.a,Ex.c,aC]
  (repeat' first|contradiction|exact .ok|apply And.intro|intro _|(apply gc<;>simp+contextual))
  refine aA (jG ⟨3,0,t⟩) (by simp [V.a]) ?_
  generalize V.valid ⟨3,0,t⟩=Q
  cases Q
  ·simp
   all_goals exact gz
  by_cases a2:c=0
  ·by_cases a3:n=0
   ·simp [a2,a3,cN]
    (repeat' first|contradiction|exact .ok|apply And.intro|intro _|(apply gc<;>simp+contextual[a2,a3]))
   ·simp [a2,a3,cN]
    (repeat' first|contradiction|exact .ok|apply And.intro|intro _|(apply gc<;>simp+contextual[a2,a3]))
  ·simp [a2,cN]
   (repeat' first|contradiction|exact .ok|apply And.intro|intro _|(apply gc<;>simp+contextual[a2]))
 by_cases h5:o=5
 ·subst h5
  have e:gJ 5 c n g t=cN c n 0 t:=rfl
  rw [e]
  clear e
  by_cases a2:c=0
  ·by_cases a3:n=0
   ·simp [Ex.a,Ex.c,aC,a2,a3,cN]
    (repeat' first|contradiction|exact .ok|apply And.intro|intro _|(apply gc<;>simp+contextual[a2,a3]))
   ·simp [Ex.a,Ex.c,aC,a2,a3,cN]
    (repeat' first|contradiction|exact .ok|apply And.intro|intro _|(apply gc<;>simp+contextual[a2,a3]))
  ·simp [Ex.a,Ex.c,aC,a2,cN]
   (repeat' first|contradiction|exact .ok|apply And.intro|intro _|(apply gc<;>simp+contextual[a2]))
 have e:gJ o c n g t=cN c n g t:=by unfold gJ; rw [if_neg h1,if_neg h2,if_neg h3,if_neg h4,if_neg h5]
 rw [e]
 clear e
 by_cases a2:c=0
 ·by_cases a3:n=0
  ·by_cases a4:t=[]
   ·simp [Ex.a,Ex.c,aC,h1,h2,h3,h4,h5,a2,a3,a4,cN]
    (repeat' first|contradiction|exact .ok|apply And.intro|intro _|(apply gc<;>simp+contextual[a2,a3,a4]))
   ·simp [Ex.a,Ex.c,aC,h1,h2,h3,h4,h5,a2,a3,a4,cN]
    (repeat' first|contradiction|exact .ok|apply And.intro|intro _|(apply gc<;>simp+contextual[a2,a3,a4]))
  ·simp [Ex.a,Ex.c,aC,h1,h2,h3,h4,h5,a2,a3,cN]
   (repeat' first|contradiction|exact .ok|apply And.intro|intro _|(apply gc<;>simp+contextual[a2,a3]))
 ·simp [Ex.a,Ex.c,aC,h1,h2,h3,h4,h5,a2,cN]
  (repeat' first|contradiction|exact .ok|apply And.intro|intro _|(apply gc<;>simp+contextual[a2]))
theorem aBr {o:Int} (h1:1≤o) (h2:o≤28):bL o=true:=by unfold bL; simp [h1,h2]
theorem aDq (o c n g:Int) (t:List UInt8) (ks:List Ex):Cf En 202 [(Ex.mk o c n t g ks).a] [] (.d (.bool (bL o&&gJ o c n g t))) []:=by
 refine aD aW (fn:=Tryz.f202) (by kernel_rfl) rfl (by kernel_rfl) (by decide) (by simp) ?_
 by_cases h1:o=1
 ·subst h1
  have e:(bL 1&&gJ 1 c n g t)=((c==1||(c==2||c==3))&&cN 0 n g t):=rfl
  rw [e]
  clear e
  have hq:(c==1||(c==2||c==3))=(decide (1≤c)&&decide (c≤3)):=by rw [Bool.eq_iff_iff]; simp; omega
  rw [hq]
  by_cases q1:c<1
  ·have q1':¬ 1≤c:=by omega
   simp [Ex.a,Ex.c,aC,q1,q1']
   (repeat' first|contradiction|exact .ok|apply And.intro|intro _|(apply gc<;>simp+contextual[q1]))
  by_cases q2:3<c
  ·have q2':¬ c≤3:=by omega
   simp [Ex.a,Ex.c,aC,q1,q2,q2']
   (repeat' first|contradiction|exact .ok|apply And.intro|intro _|(apply gc<;>simp+contextual[q1,q2]))
  have q1':1≤c:=by omega
  have q2':c≤3:=by omega
  simp [Ex.a,Ex.c,aC,q1,q2,q1',q2']
  (repeat' first|contradiction|exact .ok|apply And.intro|intro _|(apply gc<;>simp+contextual[q1,q2]))
  all_goals first | (simp_all [cN]; done) | (simp_all [cN]; omega) | (simp [cN]; simp_all; done) | (simp [cN]; omega)
 by_cases h2:o=2
 ·subst h2
  have e:(bL 2&&gJ 2 c n g t)=(V.valid ⟨1,n,[]⟩&&cN c 0 g t):=rfl
  rw [e]
  clear e
  have hq:V.valid ⟨1,n,[]⟩=(decide (-1000000000000≤n)&&decide (n≤1000000000000)):=by simp [V.valid]
  rw [hq]
  by_cases q1:n < -1000000000000
  ·have q1':¬ -1000000000000≤n:=by omega
   simp [Ex.a,Ex.c,aC,q1,q1']
   (repeat' first|contradiction|exact .ok|apply And.intro|intro _|(apply gc<;>simp+contextual[q1]))
  by_cases q2:1000000000000<n
  ·have q2':¬ n≤1000000000000:=by omega
   simp [Ex.a,Ex.c,aC,q1,q2,q2']
   (repeat' first|contradiction|exact .ok|apply And.intro|intro _|(apply gc<;>simp+contextual[q1,q2]))
  have q1':-1000000000000≤n:=by omega
  have q2':n≤1000000000000:=by omega
  simp [Ex.a,Ex.c,aC,q1,q2,q1',q2']
  (repeat' first|contradiction|exact .ok|apply And.intro|intro _|(apply gc<;>simp+contextual[q1,q2]))
  all_goals first | (simp_all [cN]; done) | (simp_all [cN]; omega) | (simp [cN]; simp_all; done) | (simp [cN]; omega)
 by_cases h3:o=3
 ·subst h3
  have e:(bL 3&&gJ 3 c n g t)=(V.valid ⟨2,n,[]⟩&&cN c 0 g t):=rfl
  rw [e]
  clear e
  have hq:V.valid ⟨2,n,[]⟩=(n==0||n==1):=by rw [Bool.eq_iff_iff]; simp [V.valid]
  rw [hq]
  by_cases q1:n=0
  ·simp [Ex.a,Ex.c,aC,q1]
   (repeat' first|contradiction|exact .ok|apply And.intro|intro _|(apply gc<;>simp+contextual[q1]))
   all_goals first | (simp_all [cN]; done) | (simp_all [cN]; omega) | (simp [cN]; simp_all; done) | (simp [cN]; omega)
  by_cases q2:n=1
  ·simp [Ex.a,Ex.c,aC,q1,q2]
   (repeat' first|contradiction|exact .ok|apply And.intro|intro _|(apply gc<;>simp+contextual[q1,q2]))
   all_goals first | (simp_all [cN]; done) | (simp_all [cN]; omega) | (simp [cN]; simp_all; done) | (simp [cN]; omega)
  simp [Ex.a,Ex.c,aC,q1,q2]
  (repeat' first|contradiction|exact .ok|apply And.intro|intro _|(apply gc<;>simp+contextual[q1,q2]))
 by_cases h4:o=4
 ·subst h4
  have e:(bL 4&&gJ 4 c n g t)=(V.valid ⟨3,0,t⟩&&cN c n g []):=rfl
  rw [e]
  clear e
  simp [Ex.a,Ex.c,aC]
  (repeat' first|contradiction|exact .ok|apply And.intro|intro _|(apply gc<;>simp+contextual))
  refine aA (rF ⟨3,0,t⟩) (by simp [V.a]) ?_
  generalize V.valid ⟨3,0,t⟩=Q
  cases Q
  ·simp
   all_goals exact gz
  simp
  (repeat' first|contradiction|exact .ok|apply And.intro|intro _|(apply gc<;>simp+contextual))
  all_goals first | (simp_all [cN]; done) | (simp_all [cN]; omega) | (simp [cN]; simp_all; done) | (simp [cN]; omega)
 by_cases h5:o=5
 ·subst h5
  have e:(bL 5&&gJ 5 c n g t)=cN c n 0 t:=rfl
  rw [e]
  clear e
  simp [Ex.a,Ex.c,aC]
  (repeat' first|contradiction|exact .ok|apply And.intro|intro _|(apply gc<;>simp+contextual))
  all_goals first | (simp_all [cN]; done) | (simp_all [cN]; omega) | (simp [cN]; simp_all; done) | (simp [cN]; omega)
 have e:gJ o c n g t=cN c n g t:=by unfold gJ; rw [if_neg h1,if_neg h2,if_neg h3,if_neg h4,if_neg h5]
 rw [e]
 clear e
 by_cases r1:1≤o
 rotate_left
 ·have r2:bL o=false:=by unfold bL; simp [r1]
  rw [r2]
  simp [Ex.a,Ex.c,aC,h1,h2,h3,h4,h5,r1]
  (repeat' first|contradiction|exact .ok|apply And.intro|intro _|(apply gc<;>simp+contextual[r1]))
 by_cases r2:o≤28
 rotate_left
 ·have r3:bL o=false:=by unfold bL; simp [r2]
  rw [r3]
  simp [Ex.a,Ex.c,aC,h1,h2,h3,h4,h5,r1,r2]
  (repeat' first|contradiction|exact .ok|apply And.intro|intro _|(apply gc<;>simp+contextual[r1,r2]))
 rw [aBr r1 r2]
 simp [Ex.a,Ex.c,aC,h1,h2,h3,h4,h5,r1,r2]
 (repeat' first|contradiction|exact .ok|apply And.intro|intro _|(apply gc<;>simp+contextual[r1,r2]))
 all_goals first | (simp_all [cN]; done) | (simp_all [cN]; omega) | (simp [cN]; simp_all; done) | (simp [cN]; omega)
end Go.Proofs.Tryz
