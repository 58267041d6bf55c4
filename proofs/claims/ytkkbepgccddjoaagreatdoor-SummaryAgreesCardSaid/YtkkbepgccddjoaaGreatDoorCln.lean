import Derived.Test.YtkkbepgccddjoaaGreatDoorFitR
import Derived.Test.YtkkbepgccddjoaaGreatDoorAShy
set_option linter.all false
namespace Go.Proofs.Tryz
open Go.Ab
set_option maxRecDepth 100000
set_option maxHeartbeats 8000000
def zer4 (c n g:Int) (t:List UInt8):Bool:=c==0&&(n==0&&(t==[]&&g==0))
def clnG (o c n g:Int) (t:List UInt8):Bool :=
 if o=1 then (c==1||(c==2||c==3))&&zer4 0 n g t
 else if o=2 then V.valid ⟨1,n,[]⟩&&zer4 c 0 g t
 else if o=3 then V.valid ⟨2,n,[]⟩&&zer4 c 0 g t
 else if o=4 then V.valid ⟨3,0,t⟩&&zer4 c n g []
 else if o=5 then zer4 c n 0 t
 else zer4 c n g t
theorem cl_any (o c n g:Int) (t:List UInt8) (ks:List Ex):Cf En 175 [(Ex.mk o c n t g ks).a] [] (.d (.bool (clnG o c n g t))) []:=by
 refine cf_intro mix (fn:=Tryz.f175) (by kernel_rfl) rfl (by kernel_rfl) (by decide) (by simp) ?_
 by_cases h1:o=1
 ·subst h1
  have e:clnG 1 c n g t=((c==1||(c==2||c==3))&&zer4 0 n g t):=rfl
  rw [e]
  clear e
  simp [Ex.a,Ex.c,kidsC_map]
  (repeat' (first|contradiction|exact .ok|apply And.intro|intro _|(refine gc (fun h=>?_) (fun h=>?_)<;>(have h':=h;(try simp at h');first|done|simp[h,h']|simp))))
  refine acallT_plain (e_isType c) (by simp [V.a]) ?_
  generalize (c==1||(c==2||c==3))=Q
  cases Q
  ·simp
   all_goals exact gz
  by_cases a2:n=0
  ·by_cases a3:t=[]
   ·simp [a2,a3,zer4]
    (repeat' (first|contradiction|exact .ok|apply And.intro|intro _|(refine gc (fun h=>?_) (fun h=>?_)<;>(have h':=h;(try simp at h');first|done|simp[h,h',a2,a3]|simp[a2,a3]))))
   ·simp [a2,a3,zer4]
    (repeat' (first|contradiction|exact .ok|apply And.intro|intro _|(refine gc (fun h=>?_) (fun h=>?_)<;>(have h':=h;(try simp at h');first|done|simp[h,h',a2,a3]|simp[a2,a3]))))
  ·simp [a2,zer4]
   (repeat' (first|contradiction|exact .ok|apply And.intro|intro _|(refine gc (fun h=>?_) (fun h=>?_)<;>(have h':=h;(try simp at h');first|done|simp[h,h',a2]|simp[a2]))))
 by_cases h2:o=2
 ·subst h2
  have e:clnG 2 c n g t=(V.valid ⟨1,n,[]⟩&&zer4 c 0 g t):=rfl
  rw [e]
  clear e
  simp [Ex.a,Ex.c,kidsC_map]
  (repeat' (first|contradiction|exact .ok|apply And.intro|intro _|(refine gc (fun h=>?_) (fun h=>?_)<;>(have h':=h;(try simp at h');first|done|simp[h,h']|simp))))
  refine acallT_plain (v_valid ⟨1,n,[]⟩) (by simp [V.a]) ?_
  generalize V.valid ⟨1,n,[]⟩=Q
  cases Q
  ·simp
   all_goals exact gz
  by_cases a2:c=0
  ·by_cases a3:t=[]
   ·simp [a2,a3,zer4]
    (repeat' (first|contradiction|exact .ok|apply And.intro|intro _|(refine gc (fun h=>?_) (fun h=>?_)<;>(have h':=h;(try simp at h');first|done|simp[h,h',a2,a3]|simp[a2,a3]))))
   ·simp [a2,a3,zer4]
    (repeat' (first|contradiction|exact .ok|apply And.intro|intro _|(refine gc (fun h=>?_) (fun h=>?_)<;>(have h':=h;(try simp at h');first|done|simp[h,h',a2,a3]|simp[a2,a3]))))
  ·simp [a2,zer4]
   (repeat' (first|contradiction|exact .ok|apply And.intro|intro _|(refine gc (fun h=>?_) (fun h=>?_)<;>(have h':=h;(try simp at h');first|done|simp[h,h',a2]|simp[a2]))))
 by_cases h3:o=3
 ·subst h3
  have e:clnG 3 c n g t=(V.valid ⟨2,n,[]⟩&&zer4 c 0 g t):=rfl
  rw [e]
  clear e
  simp [Ex.a,Ex.c,kidsC_map]
  (repeat' (first|contradiction|exact .ok|apply And.intro|intro _|(refine gc (fun h=>?_) (fun h=>?_)<;>(have h':=h;(try simp at h');first|done|simp[h,h']|simp))))
  refine acallT_plain (v_valid ⟨2,n,[]⟩) (by simp [V.a]) ?_
  generalize V.valid ⟨2,n,[]⟩=Q
  cases Q
  ·simp
   all_goals exact gz
  by_cases a2:c=0
  ·by_cases a3:t=[]
   ·simp [a2,a3,zer4]
    (repeat' (first|contradiction|exact .ok|apply And.intro|intro _|(refine gc (fun h=>?_) (fun h=>?_)<;>(have h':=h;(try simp at h');first|done|simp[h,h',a2,a3]|simp[a2,a3]))))
   ·simp [a2,a3,zer4]
    (repeat' (first|contradiction|exact .ok|apply And.intro|intro _|(refine gc (fun h=>?_) (fun h=>?_)<;>(have h':=h;(try simp at h');first|done|simp[h,h',a2,a3]|simp[a2,a3]))))
  ·simp [a2,zer4]
   (repeat' (first|contradiction|exact .ok|apply And.intro|intro _|(refine gc (fun h=>?_) (fun h=>?_)<;>(have h':=h;(try simp at h');first|done|simp[h,h',a2]|simp[a2]))))
 by_cases h4:o=4
 ·subst h4
  have e:clnG 4 c n g t=(V.valid ⟨3,0,t⟩&&zer4 c n g []):=rfl
  rw [e]
  clear e
  simp [Ex.a,Ex.c,kidsC_map]
  (repeat' (first|contradiction|exact .ok|apply And.intro|intro _|(refine gc (fun h=>?_) (fun h=>?_)<;>(have h':=h;(try simp at h');first|done|simp[h,h']|simp))))
  refine acallT_plain (v_valid ⟨3,0,t⟩) (by simp [V.a]) ?_
  generalize V.valid ⟨3,0,t⟩=Q
  cases Q
  ·simp
   all_goals exact gz
  by_cases a2:c=0
  ·by_cases a3:n=0
   ·simp [a2,a3,zer4]
    (repeat' (first|contradiction|exact .ok|apply And.intro|intro _|(refine gc (fun h=>?_) (fun h=>?_)<;>(have h':=h;(try simp at h');first|done|simp[h,h',a2,a3]|simp[a2,a3]))))
   ·simp [a2,a3,zer4]
    (repeat' (first|contradiction|exact .ok|apply And.intro|intro _|(refine gc (fun h=>?_) (fun h=>?_)<;>(have h':=h;(try simp at h');first|done|simp[h,h',a2,a3]|simp[a2,a3]))))
  ·simp [a2,zer4]
   (repeat' (first|contradiction|exact .ok|apply And.intro|intro _|(refine gc (fun h=>?_) (fun h=>?_)<;>(have h':=h;(try simp at h');first|done|simp[h,h',a2]|simp[a2]))))
 by_cases h5:o=5
 ·subst h5
  have e:clnG 5 c n g t=zer4 c n 0 t:=rfl
  rw [e]
  clear e
  by_cases a2:c=0
  ·by_cases a3:n=0
   ·simp [Ex.a,Ex.c,kidsC_map,a2,a3,zer4]
    (repeat' (first|contradiction|exact .ok|apply And.intro|intro _|(refine gc (fun h=>?_) (fun h=>?_)<;>(have h':=h;(try simp at h');first|done|simp[h,h',a2,a3]|simp[a2,a3]))))
   ·simp [Ex.a,Ex.c,kidsC_map,a2,a3,zer4]
    (repeat' (first|contradiction|exact .ok|apply And.intro|intro _|(refine gc (fun h=>?_) (fun h=>?_)<;>(have h':=h;(try simp at h');first|done|simp[h,h',a2,a3]|simp[a2,a3]))))
  ·simp [Ex.a,Ex.c,kidsC_map,a2,zer4]
   (repeat' (first|contradiction|exact .ok|apply And.intro|intro _|(refine gc (fun h=>?_) (fun h=>?_)<;>(have h':=h;(try simp at h');first|done|simp[h,h',a2]|simp[a2]))))
 have e:clnG o c n g t=zer4 c n g t:=by unfold clnG; rw [if_neg h1,if_neg h2,if_neg h3,if_neg h4,if_neg h5]
 rw [e]
 clear e
 by_cases a2:c=0
 ·by_cases a3:n=0
  ·by_cases a4:t=[]
   ·simp [Ex.a,Ex.c,kidsC_map,h1,h2,h3,h4,h5,a2,a3,a4,zer4]
    (repeat' (first|contradiction|exact .ok|apply And.intro|intro _|(refine gc (fun h=>?_) (fun h=>?_)<;>(have h':=h;(try simp at h');first|done|simp[h,h',a2,a3,a4]|simp[a2,a3,a4]))))
   ·simp [Ex.a,Ex.c,kidsC_map,h1,h2,h3,h4,h5,a2,a3,a4,zer4]
    (repeat' (first|contradiction|exact .ok|apply And.intro|intro _|(refine gc (fun h=>?_) (fun h=>?_)<;>(have h':=h;(try simp at h');first|done|simp[h,h',a2,a3,a4]|simp[a2,a3,a4]))))
  ·simp [Ex.a,Ex.c,kidsC_map,h1,h2,h3,h4,h5,a2,a3,zer4]
   (repeat' (first|contradiction|exact .ok|apply And.intro|intro _|(refine gc (fun h=>?_) (fun h=>?_)<;>(have h':=h;(try simp at h');first|done|simp[h,h',a2,a3]|simp[a2,a3]))))
 ·simp [Ex.a,Ex.c,kidsC_map,h1,h2,h3,h4,h5,a2,zer4]
  (repeat' (first|contradiction|exact .ok|apply And.intro|intro _|(refine gc (fun h=>?_) (fun h=>?_)<;>(have h':=h;(try simp at h');first|done|simp[h,h',a2]|simp[a2]))))
theorem isOp_of {o:Int} (h1:1≤o) (h2:o≤28):isOp o=true:=by unfold isOp; simp [h1,h2]
theorem pl_any (o c n g:Int) (t:List UInt8) (ks:List Ex):Cf En 198 [(Ex.mk o c n t g ks).a] [] (.d (.bool (isOp o&&clnG o c n g t))) []:=by
 refine cf_intro mix (fn:=Tryz.f198) (by kernel_rfl) rfl (by kernel_rfl) (by decide) (by simp) ?_
 by_cases h1:o=1
 ·subst h1
  have e:(isOp 1&&clnG 1 c n g t)=((c==1||(c==2||c==3))&&zer4 0 n g t):=rfl
  rw [e]
  clear e
  have hq:(c==1||(c==2||c==3))=(decide (1≤c)&&decide (c≤3)):=by rw [Bool.eq_iff_iff]; simp; omega
  rw [hq]
  by_cases q1:c<1
  ·have q1':¬ 1≤c:=by omega
   simp [Ex.a,Ex.c,kidsC_map,q1,q1']
   (repeat' (first|contradiction|exact .ok|apply And.intro|intro _|(refine gc (fun h=>?_) (fun h=>?_)<;>(have h':=h;(try simp at h');first|done|simp[h,h',q1]|simp[q1]))))
  by_cases q2:3<c
  ·have q2':¬ c≤3:=by omega
   simp [Ex.a,Ex.c,kidsC_map,q1,q2,q2']
   (repeat' (first|contradiction|exact .ok|apply And.intro|intro _|(refine gc (fun h=>?_) (fun h=>?_)<;>(have h':=h;(try simp at h');first|done|simp[h,h',q1,q2]|simp[q1,q2]))))
  have q1':1≤c:=by omega
  have q2':c≤3:=by omega
  simp [Ex.a,Ex.c,kidsC_map,q1,q2,q1',q2']
  (repeat' (first|contradiction|exact .ok|apply And.intro|intro _|(refine gc (fun h=>?_) (fun h=>?_)<;>(have h':=h;(try simp at h');first|done|simp[h,h',q1,q2]|simp[q1,q2]))))
  all_goals first | (simp_all [zer4]; done) | (simp_all [zer4]; omega) | (simp [zer4]; simp_all; done) | (simp [zer4]; omega)
 by_cases h2:o=2
 ·subst h2
  have e:(isOp 2&&clnG 2 c n g t)=(V.valid ⟨1,n,[]⟩&&zer4 c 0 g t):=rfl
  rw [e]
  clear e
  have hq:V.valid ⟨1,n,[]⟩=(decide (-1000000000000≤n)&&decide (n≤1000000000000)):=by simp [V.valid]
  rw [hq]
  by_cases q1:n < -1000000000000
  ·have q1':¬ -1000000000000≤n:=by omega
   simp [Ex.a,Ex.c,kidsC_map,q1,q1']
   (repeat' (first|contradiction|exact .ok|apply And.intro|intro _|(refine gc (fun h=>?_) (fun h=>?_)<;>(have h':=h;(try simp at h');first|done|simp[h,h',q1]|simp[q1]))))
  by_cases q2:1000000000000<n
  ·have q2':¬ n≤1000000000000:=by omega
   simp [Ex.a,Ex.c,kidsC_map,q1,q2,q2']
   (repeat' (first|contradiction|exact .ok|apply And.intro|intro _|(refine gc (fun h=>?_) (fun h=>?_)<;>(have h':=h;(try simp at h');first|done|simp[h,h',q1,q2]|simp[q1,q2]))))
  have q1':-1000000000000≤n:=by omega
  have q2':n≤1000000000000:=by omega
  simp [Ex.a,Ex.c,kidsC_map,q1,q2,q1',q2']
  (repeat' (first|contradiction|exact .ok|apply And.intro|intro _|(refine gc (fun h=>?_) (fun h=>?_)<;>(have h':=h;(try simp at h');first|done|simp[h,h',q1,q2]|simp[q1,q2]))))
  all_goals first | (simp_all [zer4]; done) | (simp_all [zer4]; omega) | (simp [zer4]; simp_all; done) | (simp [zer4]; omega)
 by_cases h3:o=3
 ·subst h3
  have e:(isOp 3&&clnG 3 c n g t)=(V.valid ⟨2,n,[]⟩&&zer4 c 0 g t):=rfl
  rw [e]
  clear e
  have hq:V.valid ⟨2,n,[]⟩=(n==0||n==1):=by rw [Bool.eq_iff_iff]; simp [V.valid]
  rw [hq]
  by_cases q1:n=0
  ·simp [Ex.a,Ex.c,kidsC_map,q1]
   (repeat' (first|contradiction|exact .ok|apply And.intro|intro _|(refine gc (fun h=>?_) (fun h=>?_)<;>(have h':=h;(try simp at h');first|done|simp[h,h',q1]|simp[q1]))))
   all_goals first | (simp_all [zer4]; done) | (simp_all [zer4]; omega) | (simp [zer4]; simp_all; done) | (simp [zer4]; omega)
  by_cases q2:n=1
  ·simp [Ex.a,Ex.c,kidsC_map,q1,q2]
   (repeat' (first|contradiction|exact .ok|apply And.intro|intro _|(refine gc (fun h=>?_) (fun h=>?_)<;>(have h':=h;(try simp at h');first|done|simp[h,h',q1,q2]|simp[q1,q2]))))
   all_goals first | (simp_all [zer4]; done) | (simp_all [zer4]; omega) | (simp [zer4]; simp_all; done) | (simp [zer4]; omega)
  simp [Ex.a,Ex.c,kidsC_map,q1,q2]
  (repeat' (first|contradiction|exact .ok|apply And.intro|intro _|(refine gc (fun h=>?_) (fun h=>?_)<;>(have h':=h;(try simp at h');first|done|simp[h,h',q1,q2]|simp[q1,q2]))))
 by_cases h4:o=4
 ·subst h4
  have e:(isOp 4&&clnG 4 c n g t)=(V.valid ⟨3,0,t⟩&&zer4 c n g []):=rfl
  rw [e]
  clear e
  simp [Ex.a,Ex.c,kidsC_map]
  (repeat' (first|contradiction|exact .ok|apply And.intro|intro _|(refine gc (fun h=>?_) (fun h=>?_)<;>(have h':=h;(try simp at h');first|done|simp[h,h']|simp))))
  refine acallT_plain (r_valid ⟨3,0,t⟩) (by simp [V.a]) ?_
  generalize V.valid ⟨3,0,t⟩=Q
  cases Q
  ·simp
   all_goals exact gz
  simp
  (repeat' (first|contradiction|exact .ok|apply And.intro|intro _|(refine gc (fun h=>?_) (fun h=>?_)<;>(have h':=h;(try simp at h');first|done|simp[h,h']|simp))))
  all_goals first | (simp_all [zer4]; done) | (simp_all [zer4]; omega) | (simp [zer4]; simp_all; done) | (simp [zer4]; omega)
 by_cases h5:o=5
 ·subst h5
  have e:(isOp 5&&clnG 5 c n g t)=zer4 c n 0 t:=rfl
  rw [e]
  clear e
  simp [Ex.a,Ex.c,kidsC_map]
  (repeat' (first|contradiction|exact .ok|apply And.intro|intro _|(refine gc (fun h=>?_) (fun h=>?_)<;>(have h':=h;(try simp at h');first|done|simp[h,h']|simp))))
  all_goals first | (simp_all [zer4]; done) | (simp_all [zer4]; omega) | (simp [zer4]; simp_all; done) | (simp [zer4]; omega)
 have e:clnG o c n g t=zer4 c n g t:=by unfold clnG; rw [if_neg h1,if_neg h2,if_neg h3,if_neg h4,if_neg h5]
 rw [e]
 clear e
 by_cases r1:1≤o
 rotate_left
 ·have r2:isOp o=false:=by unfold isOp; simp [r1]
  rw [r2]
  simp [Ex.a,Ex.c,kidsC_map,h1,h2,h3,h4,h5,r1]
  (repeat' (first|contradiction|exact .ok|apply And.intro|intro _|(refine gc (fun h=>?_) (fun h=>?_)<;>(have h':=h;(try simp at h');first|done|simp[h,h',r1]|simp[r1]))))
 by_cases r2:o≤28
 rotate_left
 ·have r3:isOp o=false:=by unfold isOp; simp [r2]
  rw [r3]
  simp [Ex.a,Ex.c,kidsC_map,h1,h2,h3,h4,h5,r1,r2]
  (repeat' (first|contradiction|exact .ok|apply And.intro|intro _|(refine gc (fun h=>?_) (fun h=>?_)<;>(have h':=h;(try simp at h');first|done|simp[h,h',r1,r2]|simp[r1,r2]))))
 rw [isOp_of r1 r2]
 simp [Ex.a,Ex.c,kidsC_map,h1,h2,h3,h4,h5,r1,r2]
 (repeat' (first|contradiction|exact .ok|apply And.intro|intro _|(refine gc (fun h=>?_) (fun h=>?_)<;>(have h':=h;(try simp at h');first|done|simp[h,h',r1,r2]|simp[r1,r2]))))
 all_goals first | (simp_all [zer4]; done) | (simp_all [zer4]; omega) | (simp [zer4]; simp_all; done) | (simp [zer4]; omega)
end Go.Proofs.Tryz
