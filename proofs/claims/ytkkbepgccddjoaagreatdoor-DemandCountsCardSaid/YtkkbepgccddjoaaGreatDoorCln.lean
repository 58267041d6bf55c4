import Derived.Test.YtkkbepgccddjoaaGreatDoorFitR
import Derived.Test.YtkkbepgccddjoaaGreatDoorCShy
set_option linter.all false
namespace Go.Proofs.Tryz
open Go.Ab
set_option maxRecDepth 100000
set_option maxHeartbeats 8000000
def cT (c n g:Int) (t:List UInt8):Bool:=c==0&&(n==0&&(t==[]&&g==0))
def hY (o c n g:Int) (t:List UInt8):Bool :=
 if o=1 then (c==1||(c==2||c==3))&&cT 0 n g t
 else if o=2 then V.valid ⟨1,n,[]⟩&&cT c 0 g t
 else if o=3 then V.valid ⟨2,n,[]⟩&&cT c 0 g t
 else if o=4 then V.valid ⟨3,0,t⟩&&cT c n g []
 else if o=5 then cT c n 0 t
 else cT c n g t
theorem aFG (o c n g:Int) (t:List UInt8) (ks:List Ex):Cf En 175 [(Ex.mk o c n t g ks).a] [] (.d (.bool (hY o c n g t))) []:=by
 refine cI aW (fn:=Tryz.f175) rfl ?_
 by_cases h1:o=1
 ·subst h1
  have e:hY 1 c n g t=((c==1||(c==2||c==3))&&cT 0 n g t):=rfl
  rw [e]
  clear e
  simp [Ex.a,Ex.c,aE]
  (repeat' first|contradiction|exact .ok|apply And.intro|intro _|(apply gc<;>simp+contextual))
  refine aP (CT c) ?_
  generalize (c==1||(c==2||c==3))=Q
  cases Q
  ·simp
   all_goals exact gz
  by_cases a2:n=0
  ·by_cases a3:t=[]
   ·simp [a2,a3,cT]
    (repeat' first|contradiction|exact .ok|apply And.intro|intro _|(apply gc<;>simp+contextual[a2,a3]))
   ·simp [a2,cT]
    (repeat' first|contradiction|exact .ok|apply And.intro|intro _|(apply gc<;>simp+contextual[a2,a3]))
  ·simp [cT]
   (repeat' first|contradiction|exact .ok|apply And.intro|intro _|(apply gc<;>simp+contextual[a2]))
 by_cases h2:o=2
 ·subst h2
  have e:hY 2 c n g t=(V.valid ⟨1,n,[]⟩&&cT c 0 g t):=rfl
  rw [e]
  clear e
  simp [Ex.a,Ex.c,aE]
  (repeat' first|contradiction|exact .ok|apply And.intro|intro _|(apply gc<;>simp+contextual))
  refine aA (jP ⟨1,n,[]⟩) (by simp [V.a]) ?_
  generalize V.valid ⟨1,n,[]⟩=Q
  cases Q
  ·simp
   all_goals exact gz
  by_cases a2:c=0
  ·by_cases a3:t=[]
   ·simp [a2,a3,cT]
    (repeat' first|contradiction|exact .ok|apply And.intro|intro _|(apply gc<;>simp+contextual[a2,a3]))
   ·simp [a2,cT]
    (repeat' first|contradiction|exact .ok|apply And.intro|intro _|(apply gc<;>simp+contextual[a2,a3]))
  ·simp [cT]
   (repeat' first|contradiction|exact .ok|apply And.intro|intro _|(apply gc<;>simp+contextual[a2]))
 by_cases h3:o=3
 ·subst h3
  have e:hY 3 c n g t=(V.valid ⟨2,n,[]⟩&&cT c 0 g t):=rfl
  rw [e]
  clear e
  simp [Ex.a,Ex.c,aE]
  (repeat' first|contradiction|exact .ok|apply And.intro|intro _|(apply gc<;>simp+contextual))
  refine aA (jP ⟨2,n,[]⟩) (by simp [V.a]) ?_
  generalize V.valid ⟨2,n,[]⟩=Q
  cases Q
  ·simp
   all_goals exact gz
  by_cases a2:c=0
  ·by_cases a3:t=[]
   ·simp [a2,a3,cT]
    (repeat' first|contradiction|exact .ok|apply And.intro|intro _|(apply gc<;>simp+contextual[a2,a3]))
   ·simp [a2,cT]
    (repeat' first|contradiction|exact .ok|apply And.intro|intro _|(apply gc<;>simp+contextual[a2,a3]))
  ·simp [cT]
   (repeat' first|contradiction|exact .ok|apply And.intro|intro _|(apply gc<;>simp+contextual[a2]))
 by_cases h4:o=4
 ·subst h4
  have e:hY 4 c n g t=(V.valid ⟨3,0,t⟩&&cT c n g []):=rfl
  rw [e]
  clear e
  simp [Ex.a,Ex.c,aE]
  (repeat' first|contradiction|exact .ok|apply And.intro|intro _|(apply gc<;>simp+contextual))
  refine aA (jP ⟨3,0,t⟩) (by simp [V.a]) ?_
  generalize V.valid ⟨3,0,t⟩=Q
  cases Q
  ·simp
   all_goals exact gz
  by_cases a2:c=0
  ·by_cases a3:n=0
   ·simp [a2,a3,cT]
    (repeat' first|contradiction|exact .ok|apply And.intro|intro _|(apply gc<;>simp+contextual[a2,a3]))
   ·simp [a2,cT]
    (repeat' first|contradiction|exact .ok|apply And.intro|intro _|(apply gc<;>simp+contextual[a2,a3]))
  ·simp [cT]
   (repeat' first|contradiction|exact .ok|apply And.intro|intro _|(apply gc<;>simp+contextual[a2]))
 by_cases h5:o=5
 ·subst h5
  have e:hY 5 c n g t=cT c n 0 t:=rfl
  rw [e]
  clear e
  by_cases a2:c=0
  ·by_cases a3:n=0
   ·simp [Ex.a,Ex.c,aE,a2,a3,cT]
    (repeat' first|contradiction|exact .ok|apply And.intro|intro _|(apply gc<;>simp+contextual[a2,a3]))
   ·simp [Ex.a,Ex.c,aE,a2,cT]
    (repeat' first|contradiction|exact .ok|apply And.intro|intro _|(apply gc<;>simp+contextual[a2,a3]))
  ·simp [Ex.a,Ex.c,aE,cT]
   (repeat' first|contradiction|exact .ok|apply And.intro|intro _|(apply gc<;>simp+contextual[a2]))
 have e:hY o c n g t=cT c n g t:=by unfold hY; rw [if_neg h1,if_neg h2,if_neg h3,if_neg h4,if_neg h5]
 rw [e]
 clear e
 by_cases a2:c=0
 ·by_cases a3:n=0
  ·by_cases a4:t=[]
   ·simp [Ex.a,Ex.c,aE,h1,h2,h3,h4,h5,a2,a3,a4,cT]
    (repeat' first|contradiction|exact .ok|apply And.intro|intro _|(apply gc<;>simp+contextual[a2,a3,a4]))
   ·simp [Ex.a,Ex.c,aE,h1,h2,h3,h4,h5,a2,a3,cT]
    (repeat' first|contradiction|exact .ok|apply And.intro|intro _|(apply gc<;>simp+contextual[a2,a3,a4]))
  ·simp [Ex.a,Ex.c,aE,h1,h2,h3,h4,h5,a2,cT]
   (repeat' first|contradiction|exact .ok|apply And.intro|intro _|(apply gc<;>simp+contextual[a2,a3]))
 ·simp [Ex.a,Ex.c,aE,h1,h2,h3,h4,h5,cT]
  (repeat' first|contradiction|exact .ok|apply And.intro|intro _|(apply gc<;>simp+contextual[a2]))
theorem aDD {o:Int} (h1:1≤o) (h2:o≤28):bR o=true:=by unfold bR; simp [h1,h2]
theorem aFH (o c n g:Int) (t:List UInt8) (ks:List Ex):Cf En 198 [(Ex.mk o c n t g ks).a] [] (.d (.bool (bR o&&hY o c n g t))) []:=by
 refine cI aW (fn:=Tryz.f198) rfl ?_
 by_cases h1:o=1
 ·subst h1
  have e:(bR 1&&hY 1 c n g t)=((c==1||(c==2||c==3))&&cT 0 n g t):=rfl
  rw [e]
  clear e
  have hq:(c==1||(c==2||c==3))=(decide (1≤c)&&decide (c≤3)):=by rw [Bool.eq_iff_iff]; simp; omega
  rw [hq]
  by_cases q1:c<1
  ·have q1':¬ 1≤c:=by omega
   simp [Ex.a,Ex.c,aE,q1,q1']
   (repeat' first|contradiction|exact .ok|apply And.intro|intro _|(apply gc<;>simp+contextual[q1]))
  by_cases q2:3<c
  ·have q2':¬ c≤3:=by omega
   simp [Ex.a,Ex.c,aE,q1,q2,q2']
   (repeat' first|contradiction|exact .ok|apply And.intro|intro _|(apply gc<;>simp+contextual[q1,q2]))
  have q1':1≤c:=by omega
  have q2':c≤3:=by omega
  simp [Ex.a,Ex.c,aE,q1,q2,q1',q2']
  (repeat' first|contradiction|exact .ok|apply And.intro|intro _|(apply gc<;>simp+contextual))
  all_goals first | (simp_all [cT]; done) | (simp_all [cT]; omega) | (simp [cT]; simp_all; done) | (simp [cT]; omega)
 by_cases h2:o=2
 ·subst h2
  have e:(bR 2&&hY 2 c n g t)=(V.valid ⟨1,n,[]⟩&&cT c 0 g t):=rfl
  rw [e]
  clear e
  have hq:V.valid ⟨1,n,[]⟩=(decide (-1000000000000≤n)&&decide (n≤1000000000000)):=by simp [V.valid]
  rw [hq]
  by_cases q1:n < -1000000000000
  ·have q1':¬ -1000000000000≤n:=by omega
   simp [Ex.a,Ex.c,aE,q1,q1']
   (repeat' first|contradiction|exact .ok|apply And.intro|intro _|(apply gc<;>simp+contextual[q1]))
  by_cases q2:1000000000000<n
  ·have q2':¬ n≤1000000000000:=by omega
   simp [Ex.a,Ex.c,aE,q1,q2,q2']
   (repeat' first|contradiction|exact .ok|apply And.intro|intro _|(apply gc<;>simp+contextual[q1,q2]))
  have q1':-1000000000000≤n:=by omega
  have q2':n≤1000000000000:=by omega
  simp [Ex.a,Ex.c,aE,q1,q2,q1',q2']
  (repeat' first|contradiction|exact .ok|apply And.intro|intro _|(apply gc<;>simp+contextual))
  all_goals first | (simp_all [cT]; done) | (simp_all [cT]; omega) | (simp [cT]; simp_all; done) | (simp [cT]; omega)
 by_cases h3:o=3
 ·subst h3
  have e:(bR 3&&hY 3 c n g t)=(V.valid ⟨2,n,[]⟩&&cT c 0 g t):=rfl
  rw [e]
  clear e
  have hq:V.valid ⟨2,n,[]⟩=(n==0||n==1):=by rw [Bool.eq_iff_iff]; simp [V.valid]
  rw [hq]
  by_cases q1:n=0
  ·simp [Ex.a,Ex.c,aE,q1]
   (repeat' first|contradiction|exact .ok|apply And.intro|intro _|(apply gc<;>simp+contextual[q1]))
   all_goals first | (simp_all [cT]; done) | (simp_all [cT]; omega) | (simp [cT]; simp_all; done) | (simp [cT]; omega)
  by_cases q2:n=1
  ·simp [Ex.a,Ex.c,aE,q2]
   (repeat' first|contradiction|exact .ok|apply And.intro|intro _|(apply gc<;>simp+contextual[q2]))
   all_goals first | (simp_all [cT]; done) | (simp_all [cT]; omega) | (simp [cT]; simp_all; done) | (simp [cT]; omega)
  simp [Ex.a,Ex.c,aE]
  (repeat' first|contradiction|exact .ok|apply And.intro|intro _|(apply gc<;>simp+contextual[q1,q2]))
 by_cases h4:o=4
 ·subst h4
  have e:(bR 4&&hY 4 c n g t)=(V.valid ⟨3,0,t⟩&&cT c n g []):=rfl
  rw [e]
  clear e
  simp [Ex.a,Ex.c,aE]
  (repeat' first|contradiction|exact .ok|apply And.intro|intro _|(apply gc<;>simp+contextual))
  refine aA (sV ⟨3,0,t⟩) (by simp [V.a]) ?_
  generalize V.valid ⟨3,0,t⟩=Q
  cases Q
  ·simp
   all_goals exact gz
  simp
  (repeat' first|contradiction|exact .ok|apply And.intro|intro _|(apply gc<;>simp+contextual))
  all_goals first | (simp_all [cT]; done) | (simp_all [cT]; omega) | (simp [cT]; simp_all; done) | (simp [cT]; omega)
 by_cases h5:o=5
 ·subst h5
  have e:(bR 5&&hY 5 c n g t)=cT c n 0 t:=rfl
  rw [e]
  clear e
  simp [Ex.a,Ex.c,aE]
  (repeat' first|contradiction|exact .ok|apply And.intro|intro _|(apply gc<;>simp+contextual))
  all_goals first | (simp_all [cT]; done) | (simp_all [cT]; omega) | (simp [cT]; simp_all; done) | (simp [cT]; omega)
 have e:hY o c n g t=cT c n g t:=by unfold hY; rw [if_neg h1,if_neg h2,if_neg h3,if_neg h4,if_neg h5]
 rw [e]
 clear e
 by_cases r1:1≤o
 rotate_left
 ·have r2:bR o=false:=by unfold bR; simp [r1]
  rw [r2]
  simp [Ex.a,Ex.c,aE,h1,h2,h3,h4,h5,r1]
  (repeat' first|contradiction|exact .ok|apply And.intro|intro _|(apply gc<;>simp+contextual[r1]))
 by_cases r2:o≤28
 rotate_left
 ·have r3:bR o=false:=by unfold bR; simp [r2]
  rw [r3]
  simp [Ex.a,Ex.c,aE,h1,h2,h3,h4,h5,r1,r2]
  (repeat' first|contradiction|exact .ok|apply And.intro|intro _|(apply gc<;>simp+contextual[r1,r2]))
 rw [aDD r1 r2]
 simp [Ex.a,Ex.c,aE,h1,h2,h3,h4,h5,r1,r2]
 (repeat' first|contradiction|exact .ok|apply And.intro|intro _|(apply gc<;>simp+contextual))
 all_goals first | (simp_all [cT]; done) | (simp_all [cT]; omega) | (simp [cT]; simp_all; done) | (simp [cT]; omega)
end Go.Proofs.Tryz
