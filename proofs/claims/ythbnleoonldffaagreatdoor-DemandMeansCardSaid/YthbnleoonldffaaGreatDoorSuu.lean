import Derived.Test.YthbnleoonldffaaGreatDoorQSmR
import Derived.Test.YthbnleoonldffaaGreatDoorQPlb
set_option linter.all false
namespace Go.Proofs.Tryz
open Go.Ab
set_option maxRecDepth 100000
set_option maxHeartbeats 4000000
theorem VG (x y:At):wJ [eQ x.col y.col,eQ x.op y.op,x.v.cmp y.v]=x.cmp y:=by
 unfold At.cmp
 simp only [wJ,eQ]
 generalize x.v.cmp y.v=z
 grind
theorem aCO (x y:At):Cf En 268 [x.a,y.a] [] (.d (.int .i64 (x.cmp y))) []:=by
 refine aD aW (fn:=Tryz.f268) (by kernel_rfl) rfl (by kernel_rfl) (by decide) (by simp) ?_
 simp [At.a,At.c]
 (repeat' (first|contradiction|exact .ok|apply And.intro|intro _|(refine gc (fun h=>?_) (fun h=>?_)<;>(have h':=h;(try simp at h');first|done|simp[h,h']|simp))))
 refine aA (HR x.col y.col) (by simp) ?_
 simp
 refine aA (HR x.op y.op) (by simp) ?_
 simp
 refine aA (EU x.v y.v) (by simp [V.a]) ?_
 simp
 refine aA (aAO [eQ x.col y.col,eQ x.op y.op,x.v.cmp y.v] (by simp)) (by simp) ?_
 rw [VG]
 simp
 all_goals exact gz
theorem VH (x:Tb) (hx:x.ok) (ht:∀ c∈x.cols,c.t=1∨c.t=2∨c.t=3) (a:At):Cf En 334 [x.a,a.a] [] (.d (.bool (mW x a))) []:=by
 refine aD aW (fn:=Tryz.f334) (by kernel_rfl) rfl (by kernel_rfl) (by decide) (by simp) ?_
 unfold mW
 by_cases h1:a.col<0
 ·have h1':¬ 0≤a.col:=by omega
  simp [Tb.a,Tb.c,At.a,At.c,h1,h1']
  (repeat' (first|contradiction|exact .ok|apply And.intro|intro _|(refine gc (fun h=>?_) (fun h=>?_)<;>(have h':=h;(try simp at h');first|done|simp[h,h',h1]|simp[h1]))))
 have h1':0≤a.col:=by omega
 by_cases h2:(x.cols.length:Int)≤a.col
 ·have h2':¬ a.col<x.cols.length:=by omega
  simp [Tb.a,Tb.c,At.a,At.c,h1,h1',h2,h2']
  (repeat' (first|contradiction|exact .ok|apply And.intro|intro _|(refine gc (fun h=>?_) (fun h=>?_)<;>(have h':=h;(try simp at h');first|done|simp[h,h',h1,h2]|simp[h1,h2]))))
 have h2':a.col<x.cols.length:=by omega
 have hk:=ZJ x hx a.col
 have hlt:a.col.toNat<x.cols.length:=by omega
 obtain ⟨u,hu⟩:∃ u,u=x.cols[a.col.toNat]:=⟨_,rfl⟩
 have hgu:∀ h,x.cols[a.col.toNat]'h=u:=fun _=>hu.symm
 have hty:dE x a.col=u.t:=by unfold dE; rw [List.getElem?_eq_getElem (by omega),← hu]; rfl
 have hut:=ht u (by rw [hu]; exact List.getElem_mem hlt)
 rw [hty]
 simp [Tb.a,Tb.c,At.a,At.c,h1,h1',h2,h2']
 (repeat' (first|contradiction|exact .ok|apply And.intro|intro _|(refine gc (fun h=>?_) (fun h=>?_)<;>(have h':=h;(try simp at h');first|done|simp[h,h',h1,h2]|simp[h1,h2]))))
 refine aA hk (by simp [Tb.a,Tb.c]) ?_
 generalize dJ x a.col=K at *
 cases K with
 | true =>
   simp
   all_goals exact gz
 | false =>
   have hv:=jG a.v
   have hne:V.beq a.v nulV=(a.v.k==0&&(a.v.n==0&&a.v.t==[])):=rfl
   rw [hne]
   have hu0:¬ u.t=0:=by omega
   simp [h1',h2',hlt,hgu,Col.c]
   (repeat' (first|contradiction|exact .ok|apply And.intro|intro _|(refine gc (fun h=>?_) (fun h=>?_)<;>(have h':=h;(try simp at h');first|done|simp[h,h',h1',h2',hlt,hgu]|simp[h1',h2',hlt,hgu]))))
   refine aA hv (by simp [V.a]) ?_
   generalize a.v.valid=B at *
   cases B with
   | false =>
     simp only [Bool.false_and]
     by_cases e14:a.op=14
     ·simp [h1',h2',e14]
      (repeat' (first|contradiction|exact .ok|apply And.intro|intro _|(refine gc (fun h=>?_) (fun h=>?_)<;>(have h':=h;(try simp at h');first|done|simp[h,h',h1',h2',e14]|simp[h1',h2',e14]))))
      all_goals (try simp [h1',h2',e14])
     by_cases e15:a.op=15
     ·simp [h1',h2',e14,e15]
      (repeat' (first|contradiction|exact .ok|apply And.intro|intro _|(refine gc (fun h=>?_) (fun h=>?_)<;>(have h':=h;(try simp at h');first|done|simp[h,h',h1',h2',e14,e15]|simp[h1',h2',e14,e15]))))
      all_goals (try simp [h1',h2',e14,e15])
     by_cases e16:a.op=16
     ·simp [h1',h2',e14,e15,e16]
      (repeat' (first|contradiction|exact .ok|apply And.intro|intro _|(refine gc (fun h=>?_) (fun h=>?_)<;>(have h':=h;(try simp at h');first|done|simp[h,h',h1',h2',e14,e15,e16]|simp[h1',h2',e14,e15,e16]))))
      all_goals (try simp [h1',h2',e14,e15,e16])
     by_cases e17:a.op=17
     ·simp [h1',h2',e14,e15,e16,e17]
      (repeat' (first|contradiction|exact .ok|apply And.intro|intro _|(refine gc (fun h=>?_) (fun h=>?_)<;>(have h':=h;(try simp at h');first|done|simp[h,h',h1',h2',e14,e15,e16,e17]|simp[h1',h2',e14,e15,e16,e17]))))
      all_goals (try simp [h1',h2',e14,e15,e16,e17])
     by_cases e18:a.op=18
     ·simp [h1',h2',e14,e15,e16,e17,e18]
      (repeat' (first|contradiction|exact .ok|apply And.intro|intro _|(refine gc (fun h=>?_) (fun h=>?_)<;>(have h':=h;(try simp at h');first|done|simp[h,h',h1',h2',e14,e15,e16,e17,e18]|simp[h1',h2',e14,e15,e16,e17,e18]))))
      all_goals (try simp [h1',h2',e14,e15,e16,e17,e18])
     by_cases e19:a.op=19
     ·simp [h1',h2',e14,e15,e16,e17,e18,e19]
      (repeat' (first|contradiction|exact .ok|apply And.intro|intro _|(refine gc (fun h=>?_) (fun h=>?_)<;>(have h':=h;(try simp at h');first|done|simp[h,h',h1',h2',e14,e15,e16,e17,e18,e19]|simp[h1',h2',e14,e15,e16,e17,e18,e19]))))
      all_goals (try simp [h1',h2',e14,e15,e16,e17,e18,e19])
     by_cases e21:a.op=21
     ·simp [h1',h2',e14,e15,e16,e17,e18,e19,e21]
      (repeat' (first|contradiction|exact .ok|apply And.intro|intro _|(refine gc (fun h=>?_) (fun h=>?_)<;>(have h':=h;(try simp at h');first|done|simp[h,h',h1',h2',e14,e15,e16,e17,e18,e19,e21]|simp[h1',h2',e14,e15,e16,e17,e18,e19,e21]))))
      all_goals (try simp [h1',h2',e14,e15,e16,e17,e18,e19,e21])
     by_cases e5:a.op=5
     ·by_cases z:a.v.k=0∧a.v.n=0∧a.v.t=[]
      ·obtain ⟨z1,z2,z3⟩:=z
       simp [h1',h2',e14,e15,e16,e17,e18,e19,e21,e5,z1,z2,z3]
       (repeat' (first|contradiction|exact .ok|apply And.intro|intro _|(refine gc (fun h=>?_) (fun h=>?_)<;>(have h':=h;(try simp at h');first|done|simp[h,h',h1',h2',e14,e15,e16,e17,e18,e19,e21,e5,z1,z2,z3]|simp[h1',h2',e14,e15,e16,e17,e18,e19,e21,e5,z1,z2,z3]))))
       all_goals (try simp [h1',h2',e14,e15,e16,e17,e18,e19,e21,e5,z1,z2,z3])
      ·have z2:(a.v.k==0&&(a.v.n==0&&a.v.t==[]))=false:=by
        cases hq:(a.v.k==0&&(a.v.n==0&&a.v.t==[])) with
        | false=>rfl
        | true=>exfalso; apply z; simpa using hq
       simp [h1',h2',e14,e15,e16,e17,e18,e19,e21,e5,z2]
       (repeat' (first|contradiction|exact .ok|apply And.intro|intro _|(refine gc (fun h=>?_) (fun h=>?_)<;>(have h':=h;(try simp at h');first|done|simp[h,h',h1',h2',e14,e15,e16,e17,e18,e19,e21,e5,z2]|simp[h1',h2',e14,e15,e16,e17,e18,e19,e21,e5,z2]))))
       all_goals (try simp [h1',h2',e14,e15,e16,e17,e18,e19,e21,e5,z2])
     simp [h1',h2',e14,e15,e16,e17,e18,e19,e21,e5]
     (repeat' (first|contradiction|exact .ok|apply And.intro|intro _|(refine gc (fun h=>?_) (fun h=>?_)<;>(have h':=h;(try simp at h');first|done|simp[h,h',h1',h2',e14,e15,e16,e17,e18,e19,e21,e5]|simp[h1',h2',e14,e15,e16,e17,e18,e19,e21,e5]))))
     all_goals (try simp [h1',h2',e14,e15,e16,e17,e18,e19,e21,e5])
   | true =>
     by_cases hk:a.v.k=u.t
     ·have hk0:¬ a.v.k=0:=by omega
      by_cases e14:a.op=14
      ·simp [h1',h2',hk,hk0,hu0,e14]
       (repeat' (first|contradiction|exact .ok|apply And.intro|intro _|(refine gc (fun h=>?_) (fun h=>?_)<;>(have h':=h;(try simp at h');first|done|simp[h,h',h1',h2',hk,hk0,hu0,e14]|simp[h1',h2',hk,hk0,hu0,e14]))))
       all_goals (try simp [h1',h2',hk,hk0,hu0,e14])
      by_cases e15:a.op=15
      ·simp [h1',h2',hk,hk0,hu0,e14,e15]
       (repeat' (first|contradiction|exact .ok|apply And.intro|intro _|(refine gc (fun h=>?_) (fun h=>?_)<;>(have h':=h;(try simp at h');first|done|simp[h,h',h1',h2',hk,hk0,hu0,e14,e15]|simp[h1',h2',hk,hk0,hu0,e14,e15]))))
       all_goals (try simp [h1',h2',hk,hk0,hu0,e14,e15])
      by_cases e16:a.op=16
      ·simp [h1',h2',hk,hk0,hu0,e14,e15,e16]
       (repeat' (first|contradiction|exact .ok|apply And.intro|intro _|(refine gc (fun h=>?_) (fun h=>?_)<;>(have h':=h;(try simp at h');first|done|simp[h,h',h1',h2',hk,hk0,hu0,e14,e15,e16]|simp[h1',h2',hk,hk0,hu0,e14,e15,e16]))))
       all_goals (try simp [h1',h2',hk,hk0,hu0,e14,e15,e16])
      by_cases e17:a.op=17
      ·simp [h1',h2',hk,hk0,hu0,e14,e15,e16,e17]
       (repeat' (first|contradiction|exact .ok|apply And.intro|intro _|(refine gc (fun h=>?_) (fun h=>?_)<;>(have h':=h;(try simp at h');first|done|simp[h,h',h1',h2',hk,hk0,hu0,e14,e15,e16,e17]|simp[h1',h2',hk,hk0,hu0,e14,e15,e16,e17]))))
       all_goals (try simp [h1',h2',hk,hk0,hu0,e14,e15,e16,e17])
      by_cases e18:a.op=18
      ·simp [h1',h2',hk,hk0,hu0,e14,e15,e16,e17,e18]
       (repeat' (first|contradiction|exact .ok|apply And.intro|intro _|(refine gc (fun h=>?_) (fun h=>?_)<;>(have h':=h;(try simp at h');first|done|simp[h,h',h1',h2',hk,hk0,hu0,e14,e15,e16,e17,e18]|simp[h1',h2',hk,hk0,hu0,e14,e15,e16,e17,e18]))))
       all_goals (try simp [h1',h2',hk,hk0,hu0,e14,e15,e16,e17,e18])
      by_cases e19:a.op=19
      ·simp [h1',h2',hk,hk0,hu0,e14,e15,e16,e17,e18,e19]
       (repeat' (first|contradiction|exact .ok|apply And.intro|intro _|(refine gc (fun h=>?_) (fun h=>?_)<;>(have h':=h;(try simp at h');first|done|simp[h,h',h1',h2',hk,hk0,hu0,e14,e15,e16,e17,e18,e19]|simp[h1',h2',hk,hk0,hu0,e14,e15,e16,e17,e18,e19]))))
       all_goals (try simp [h1',h2',hk,hk0,hu0,e14,e15,e16,e17,e18,e19])
      by_cases e21:a.op=21
      ·simp [h1',h2',hk,hk0,hu0,e14,e15,e16,e17,e18,e19,e21]
       (repeat' (first|contradiction|exact .ok|apply And.intro|intro _|(refine gc (fun h=>?_) (fun h=>?_)<;>(have h':=h;(try simp at h');first|done|simp[h,h',h1',h2',hk,hk0,hu0,e14,e15,e16,e17,e18,e19,e21]|simp[h1',h2',hk,hk0,hu0,e14,e15,e16,e17,e18,e19,e21]))))
       all_goals (try simp [h1',h2',hk,hk0,hu0,e14,e15,e16,e17,e18,e19,e21])
      by_cases e5:a.op=5
      ·by_cases z:a.v.k=0∧a.v.n=0∧a.v.t=[]
       ·obtain ⟨z1,z2,z3⟩:=z
        simp [h1',h2',hk,hk0,hu0,e14,e15,e16,e17,e18,e19,e21,e5,z1,z2,z3]
        (repeat' (first|contradiction|exact .ok|apply And.intro|intro _|(refine gc (fun h=>?_) (fun h=>?_)<;>(have h':=h;(try simp at h');first|done|simp[h,h',h1',h2',hk,hk0,hu0,e14,e15,e16,e17,e18,e19,e21,e5,z1,z2,z3]|simp[h1',h2',hk,hk0,hu0,e14,e15,e16,e17,e18,e19,e21,e5,z1,z2,z3]))))
        all_goals (try simp [h1',h2',hk,hk0,hu0,e14,e15,e16,e17,e18,e19,e21,e5,z1,z2,z3])
       ·have z2:(a.v.k==0&&(a.v.n==0&&a.v.t==[]))=false:=by
         cases hq:(a.v.k==0&&(a.v.n==0&&a.v.t==[])) with
         | false=>rfl
         | true=>exfalso; apply z; simpa using hq
        simp [h1',h2',hk,hk0,hu0,e14,e15,e16,e17,e18,e19,e21,e5,z2]
        (repeat' (first|contradiction|exact .ok|apply And.intro|intro _|(refine gc (fun h=>?_) (fun h=>?_)<;>(have h':=h;(try simp at h');first|done|simp[h,h',h1',h2',hk,hk0,hu0,e14,e15,e16,e17,e18,e19,e21,e5,z2]|simp[h1',h2',hk,hk0,hu0,e14,e15,e16,e17,e18,e19,e21,e5,z2]))))
        all_goals (try simp [h1',h2',hk,hk0,hu0,e14,e15,e16,e17,e18,e19,e21,e5,z2])
      simp [h1',h2',hk,hk0,hu0,e14,e15,e16,e17,e18,e19,e21,e5]
      (repeat' (first|contradiction|exact .ok|apply And.intro|intro _|(refine gc (fun h=>?_) (fun h=>?_)<;>(have h':=h;(try simp at h');first|done|simp[h,h',h1',h2',hk,hk0,hu0,e14,e15,e16,e17,e18,e19,e21,e5]|simp[h1',h2',hk,hk0,hu0,e14,e15,e16,e17,e18,e19,e21,e5]))))
      all_goals (try simp [h1',h2',hk,hk0,hu0,e14,e15,e16,e17,e18,e19,e21,e5])
     by_cases hk0:a.v.k=0
     ·have hk':¬ 0=u.t:=by omega
      have hk1:¬ a.v.k=1∨¬ u.t=1:=by omega
      by_cases e14:a.op=14
      ·simp [h1',h2',hk0,hk',hu0,e14]
       (repeat' (first|contradiction|exact .ok|apply And.intro|intro _|(refine gc (fun h=>?_) (fun h=>?_)<;>(have h':=h;(try simp at h');first|done|simp[h,h',h1',h2',hk0,hk',hu0,e14]|simp[h1',h2',hk0,hk',hu0,e14]))))
       all_goals (try simp [h1',h2',hk0,hk',hu0,e14])
      by_cases e15:a.op=15
      ·simp [h1',h2',hk0,hk',hu0,e14,e15]
       (repeat' (first|contradiction|exact .ok|apply And.intro|intro _|(refine gc (fun h=>?_) (fun h=>?_)<;>(have h':=h;(try simp at h');first|done|simp[h,h',h1',h2',hk0,hk',hu0,e14,e15]|simp[h1',h2',hk0,hk',hu0,e14,e15]))))
       all_goals (try simp [h1',h2',hk0,hk',hu0,e14,e15])
      by_cases e16:a.op=16
      ·simp [h1',h2',hk0,hk',hu0,e14,e15,e16]
       (repeat' (first|contradiction|exact .ok|apply And.intro|intro _|(refine gc (fun h=>?_) (fun h=>?_)<;>(have h':=h;(try simp at h');first|done|simp[h,h',h1',h2',hk0,hk',hu0,e14,e15,e16]|simp[h1',h2',hk0,hk',hu0,e14,e15,e16]))))
       all_goals (try simp [h1',h2',hk0,hk',hu0,e14,e15,e16])
      by_cases e17:a.op=17
      ·simp [h1',h2',hk0,hk',hu0,e14,e15,e16,e17]
       (repeat' (first|contradiction|exact .ok|apply And.intro|intro _|(refine gc (fun h=>?_) (fun h=>?_)<;>(have h':=h;(try simp at h');first|done|simp[h,h',h1',h2',hk0,hk',hu0,e14,e15,e16,e17]|simp[h1',h2',hk0,hk',hu0,e14,e15,e16,e17]))))
       all_goals (try simp [h1',h2',hk0,hk',hu0,e14,e15,e16,e17])
      by_cases e18:a.op=18
      ·simp [h1',h2',hk0,hk',hu0,e14,e15,e16,e17,e18]
       (repeat' (first|contradiction|exact .ok|apply And.intro|intro _|(refine gc (fun h=>?_) (fun h=>?_)<;>(have h':=h;(try simp at h');first|done|simp[h,h',h1',h2',hk0,hk',hu0,e14,e15,e16,e17,e18]|simp[h1',h2',hk0,hk',hu0,e14,e15,e16,e17,e18]))))
       all_goals (try simp [h1',h2',hk0,hk',hu0,e14,e15,e16,e17,e18])
      by_cases e19:a.op=19
      ·simp [h1',h2',hk0,hk',hu0,e14,e15,e16,e17,e18,e19]
       (repeat' (first|contradiction|exact .ok|apply And.intro|intro _|(refine gc (fun h=>?_) (fun h=>?_)<;>(have h':=h;(try simp at h');first|done|simp[h,h',h1',h2',hk0,hk',hu0,e14,e15,e16,e17,e18,e19]|simp[h1',h2',hk0,hk',hu0,e14,e15,e16,e17,e18,e19]))))
       all_goals (try simp [h1',h2',hk0,hk',hu0,e14,e15,e16,e17,e18,e19])
      by_cases e21:a.op=21
      ·simp [h1',h2',hk0,hk',hu0,e14,e15,e16,e17,e18,e19,e21]
       (repeat' (first|contradiction|exact .ok|apply And.intro|intro _|(refine gc (fun h=>?_) (fun h=>?_)<;>(have h':=h;(try simp at h');first|done|simp[h,h',h1',h2',hk0,hk',hu0,e14,e15,e16,e17,e18,e19,e21]|simp[h1',h2',hk0,hk',hu0,e14,e15,e16,e17,e18,e19,e21]))))
       all_goals (try simp [h1',h2',hk0,hk',hu0,e14,e15,e16,e17,e18,e19,e21])
      by_cases e5:a.op=5
      ·by_cases z:a.v.k=0∧a.v.n=0∧a.v.t=[]
       ·obtain ⟨z1,z2,z3⟩:=z
        simp [h1',h2',hk0,hk',hu0,e14,e15,e16,e17,e18,e19,e21,e5,z1,z2,z3]
        (repeat' (first|contradiction|exact .ok|apply And.intro|intro _|(refine gc (fun h=>?_) (fun h=>?_)<;>(have h':=h;(try simp at h');first|done|simp[h,h',h1',h2',hk0,hk',hu0,e14,e15,e16,e17,e18,e19,e21,e5,z1,z2,z3]|simp[h1',h2',hk0,hk',hu0,e14,e15,e16,e17,e18,e19,e21,e5,z1,z2,z3]))))
        all_goals (try simp [h1',h2',hk0,hk',hu0,e14,e15,e16,e17,e18,e19,e21,e5,z1,z2,z3])
       ·have z2:(a.v.k==0&&(a.v.n==0&&a.v.t==[]))=false:=by
         cases hq:(a.v.k==0&&(a.v.n==0&&a.v.t==[])) with
         | false=>rfl
         | true=>exfalso; apply z; simpa using hq
        simp [h1',h2',hk0,hk',hu0,e14,e15,e16,e17,e18,e19,e21,e5,z2]
        (repeat' (first|contradiction|exact .ok|apply And.intro|intro _|(refine gc (fun h=>?_) (fun h=>?_)<;>(have h':=h;(try simp at h');first|done|simp[h,h',h1',h2',hk0,hk',hu0,e14,e15,e16,e17,e18,e19,e21,e5,z2]|simp[h1',h2',hk0,hk',hu0,e14,e15,e16,e17,e18,e19,e21,e5,z2]))))
        all_goals (try simp [h1',h2',hk0,hk',hu0,e14,e15,e16,e17,e18,e19,e21,e5,z2])
      simp [h1',h2',hk0,hk',hu0,e14,e15,e16,e17,e18,e19,e21,e5]
      (repeat' (first|contradiction|exact .ok|apply And.intro|intro _|(refine gc (fun h=>?_) (fun h=>?_)<;>(have h':=h;(try simp at h');first|done|simp[h,h',h1',h2',hk0,hk',hu0,e14,e15,e16,e17,e18,e19,e21,e5]|simp[h1',h2',hk0,hk',hu0,e14,e15,e16,e17,e18,e19,e21,e5]))))
      all_goals (try simp [h1',h2',hk0,hk',hu0,e14,e15,e16,e17,e18,e19,e21,e5])
     have hk1:¬ (a.v.k=1∧u.t=1):=by omega
     by_cases e14:a.op=14
     ·simp [h1',h2',hk,hk0,hk1,e14]
      (repeat' (first|contradiction|exact .ok|apply And.intro|intro _|(refine gc (fun h=>?_) (fun h=>?_)<;>(have h':=h;(try simp at h');first|done|simp[h,h',h1',h2',hk,hk0,hk1,e14]|simp[h1',h2',hk,hk0,hk1,e14]))))
      all_goals (try simp [h1',h2',hk,hk0,hk1,e14])
      all_goals (try (exfalso; omega))
     by_cases e15:a.op=15
     ·simp [h1',h2',hk,hk0,hk1,e14,e15]
      (repeat' (first|contradiction|exact .ok|apply And.intro|intro _|(refine gc (fun h=>?_) (fun h=>?_)<;>(have h':=h;(try simp at h');first|done|simp[h,h',h1',h2',hk,hk0,hk1,e14,e15]|simp[h1',h2',hk,hk0,hk1,e14,e15]))))
      all_goals (try simp [h1',h2',hk,hk0,hk1,e14,e15])
      all_goals (try (exfalso; omega))
     by_cases e16:a.op=16
     ·simp [h1',h2',hk,hk0,hk1,e14,e15,e16]
      (repeat' (first|contradiction|exact .ok|apply And.intro|intro _|(refine gc (fun h=>?_) (fun h=>?_)<;>(have h':=h;(try simp at h');first|done|simp[h,h',h1',h2',hk,hk0,hk1,e14,e15,e16]|simp[h1',h2',hk,hk0,hk1,e14,e15,e16]))))
      all_goals (try simp [h1',h2',hk,hk0,hk1,e14,e15,e16])
      all_goals (try (exfalso; omega))
     by_cases e17:a.op=17
     ·simp [h1',h2',hk,hk0,hk1,e14,e15,e16,e17]
      (repeat' (first|contradiction|exact .ok|apply And.intro|intro _|(refine gc (fun h=>?_) (fun h=>?_)<;>(have h':=h;(try simp at h');first|done|simp[h,h',h1',h2',hk,hk0,hk1,e14,e15,e16,e17]|simp[h1',h2',hk,hk0,hk1,e14,e15,e16,e17]))))
      all_goals (try simp [h1',h2',hk,hk0,hk1,e14,e15,e16,e17])
      all_goals (try (exfalso; omega))
     by_cases e18:a.op=18
     ·simp [h1',h2',hk,hk0,hk1,e14,e15,e16,e17,e18]
      (repeat' (first|contradiction|exact .ok|apply And.intro|intro _|(refine gc (fun h=>?_) (fun h=>?_)<;>(have h':=h;(try simp at h');first|done|simp[h,h',h1',h2',hk,hk0,hk1,e14,e15,e16,e17,e18]|simp[h1',h2',hk,hk0,hk1,e14,e15,e16,e17,e18]))))
      all_goals (try simp [h1',h2',hk,hk0,hk1,e14,e15,e16,e17,e18])
      all_goals (try (exfalso; omega))
     by_cases e19:a.op=19
     ·simp [h1',h2',hk,hk0,hk1,e14,e15,e16,e17,e18,e19]
      (repeat' (first|contradiction|exact .ok|apply And.intro|intro _|(refine gc (fun h=>?_) (fun h=>?_)<;>(have h':=h;(try simp at h');first|done|simp[h,h',h1',h2',hk,hk0,hk1,e14,e15,e16,e17,e18,e19]|simp[h1',h2',hk,hk0,hk1,e14,e15,e16,e17,e18,e19]))))
      all_goals (try simp [h1',h2',hk,hk0,hk1,e14,e15,e16,e17,e18,e19])
      all_goals (try (exfalso; omega))
     by_cases e21:a.op=21
     ·simp [h1',h2',hk,hk0,hk1,e14,e15,e16,e17,e18,e19,e21]
      (repeat' (first|contradiction|exact .ok|apply And.intro|intro _|(refine gc (fun h=>?_) (fun h=>?_)<;>(have h':=h;(try simp at h');first|done|simp[h,h',h1',h2',hk,hk0,hk1,e14,e15,e16,e17,e18,e19,e21]|simp[h1',h2',hk,hk0,hk1,e14,e15,e16,e17,e18,e19,e21]))))
      all_goals (try simp [h1',h2',hk,hk0,hk1,e14,e15,e16,e17,e18,e19,e21])
      all_goals (try (exfalso; omega))
     by_cases e5:a.op=5
     ·by_cases z:a.v.k=0∧a.v.n=0∧a.v.t=[]
      ·obtain ⟨z1,z2,z3⟩:=z
       simp [h1',h2',hk,hk0,hk1,e14,e15,e16,e17,e18,e19,e21,e5,z1,z2,z3]
       (repeat' (first|contradiction|exact .ok|apply And.intro|intro _|(refine gc (fun h=>?_) (fun h=>?_)<;>(have h':=h;(try simp at h');first|done|simp[h,h',h1',h2',hk,hk0,hk1,e14,e15,e16,e17,e18,e19,e21,e5,z1,z2,z3]|simp[h1',h2',hk,hk0,hk1,e14,e15,e16,e17,e18,e19,e21,e5,z1,z2,z3]))))
       all_goals (try simp [h1',h2',hk,hk0,hk1,e14,e15,e16,e17,e18,e19,e21,e5,z1,z2,z3])
       all_goals (try (exfalso; omega))
      ·have z2:(a.v.k==0&&(a.v.n==0&&a.v.t==[]))=false:=by
        cases hq:(a.v.k==0&&(a.v.n==0&&a.v.t==[])) with
        | false=>rfl
        | true=>exfalso; apply z; simpa using hq
       simp [h1',h2',hk,hk0,hk1,e14,e15,e16,e17,e18,e19,e21,e5,z2]
       (repeat' (first|contradiction|exact .ok|apply And.intro|intro _|(refine gc (fun h=>?_) (fun h=>?_)<;>(have h':=h;(try simp at h');first|done|simp[h,h',h1',h2',hk,hk0,hk1,e14,e15,e16,e17,e18,e19,e21,e5,z2]|simp[h1',h2',hk,hk0,hk1,e14,e15,e16,e17,e18,e19,e21,e5,z2]))))
       all_goals (try simp [h1',h2',hk,hk0,hk1,e14,e15,e16,e17,e18,e19,e21,e5,z2])
       all_goals (try (exfalso; omega))
     simp [h1',h2',hk,hk0,hk1,e14,e15,e16,e17,e18,e19,e21,e5]
     (repeat' (first|contradiction|exact .ok|apply And.intro|intro _|(refine gc (fun h=>?_) (fun h=>?_)<;>(have h':=h;(try simp at h');first|done|simp[h,h',h1',h2',hk,hk0,hk1,e14,e15,e16,e17,e18,e19,e21,e5]|simp[h1',h2',hk,hk0,hk1,e14,e15,e16,e17,e18,e19,e21,e5]))))
     all_goals (try simp [h1',h2',hk,hk0,hk1,e14,e15,e16,e17,e18,e19,e21,e5])
     all_goals (try (exfalso; omega))
end Go.Proofs.Tryz
