import Derived.Test.YtkkbepgccddjoaaGreatDoorCShr
import Derived.Test.YtkkbepgccddjoaaGreatDoorCSmn
set_option linter.all false
namespace Go.Proofs.Tryz
open Go.Ab
set_option maxRecDepth 100000
set_option maxHeartbeats 2000000
def oA (x:Tb) (a:At):Bool:=decide (0≤a.col)&&(decide (a.col<x.cols.length)&&(!cU x a.col &&
 if a.op=14∨a.op=15 then a.v.valid&&a.v.k==dO x a.col else if a.op=16∨a.op=17∨a.op=18∨a.op=19 then a.v.valid&&(a.v.k==1&&dO x a.col==1) else if a.op=21 then V.beq a.v nulV else if a.op=5 then V.beq a.v nulV&&dO x a.col==2 else false))
theorem yE (x:Tb) (hx:x.ok) (a:At):Cf En 235 [x.a,a.a] [] (.d (.bool (oA x a))) []:=by
 refine cI aW (fn:=Tryz.f235) rfl ?_
 unfold oA
 by_cases h1:a.col<0
 ·have h1':¬ 0≤a.col:=by omega
  simp [Tb.a,Tb.c,At.a,At.c,h1,h1']
  (repeat' (first|contradiction|exact .ok|apply And.intro|intro _|(refine gc (fun h=>?_) (fun h=>?_)<;>(have h':=h;(try simp at h');first|done|simp[h,h',h1]|simp[h1]))))
 have h1':0≤a.col:=by omega
 by_cases h2:(x.cols.length:Int)≤a.col
 ·have h2':¬ a.col<x.cols.length:=by omega
  simp [Tb.a,Tb.c,At.a,At.c,h1,h1',h2,h2']
  (repeat' (first|contradiction|exact .ok|apply And.intro|intro _|(refine gc (fun h=>?_) (fun h=>?_)<;>(have h':=h;(try simp at h');first|done|simp[h,h',h1,h2]|simp[h1,h2]))))
 have h2':a.col<x.cols.length:=by omega
 have hk:=PR x hx a.col
 obtain ⟨u,hu⟩:∃ u,u=x.cols[a.col.toNat]:=⟨_,rfl⟩
 have hgu:∀ h,x.cols[a.col.toNat]'h=u:=fun _=>hu.symm
 have hty:dO x a.col=u.t:=by unfold dO; rw [gE (by omega),← hu]; rfl
 rw [hty]
 simp [Tb.a,Tb.c,At.a,At.c,h1,h2]
 (repeat' (first|contradiction|exact .ok|apply And.intro|intro _|(refine gc (fun h=>?_) (fun h=>?_)<;>(have h':=h;(try simp at h');first|done|simp[h,h',h1,h2]|simp[h1,h2]))))
 refine aA hk (by simp [Tb.a,Tb.c]) ?_
 generalize cU x a.col=K at *
 cases K with
 | true =>
   simp
   all_goals exact gz
 | false =>
   have hlt:a.col.toNat<x.cols.length:=by omega
   have hv:=sV a.v
   have hne:V.beq a.v nulV=(a.v.k==0&&(a.v.n==0&&a.v.t==[])):=rfl
   by_cases h14:a.op=14
   ·simp [h1',h2',hlt,hgu,Col.c,h14]
    (repeat' (first|contradiction|exact .ok|apply And.intro|intro _|(refine gc (fun h=>?_) (fun h=>?_)<;>(have h':=h;(try simp at h');first|done|simp[h,h',h1',h2',hlt,hgu,h14]|simp[h1',h2',hlt,hgu,h14]))))
    refine aA hv (by simp [V.a]) ?_
    generalize a.v.valid=B at *
    cases B
    ·simp
     all_goals exact gz
    ·simp [h1',h2']
     all_goals exact gz
   by_cases h15:a.op=15
   ·simp [h1',h2',hlt,hgu,Col.c,h15]
    (repeat' (first|contradiction|exact .ok|apply And.intro|intro _|(refine gc (fun h=>?_) (fun h=>?_)<;>(have h':=h;(try simp at h');first|done|simp[h,h',h1',h2',hlt,hgu,h14,h15]|simp[h1',h2',hlt,hgu,h14,h15]))))
    refine aA hv (by simp [V.a]) ?_
    generalize a.v.valid=B at *
    cases B
    ·simp
     all_goals exact gz
    ·simp [h1',h2']
     all_goals exact gz
   by_cases h16:a.op=16∨a.op=17∨a.op=18∨a.op=19
   ·have hn14:¬ (a.op=14∨a.op=15):=by omega
    rw [if_neg hn14,if_pos h16]
    rcases h16 with h | h | h | h
    all_goals (
     simp [h1',h2',hlt,hgu,Col.c,h]
     (repeat' (first|contradiction|exact .ok|apply And.intro|intro _|(refine gc (fun h=>?_) (fun h=>?_)<;>(have h':=h;(try simp at h');first|done|simp[h,h',h1',h2',hlt,hgu,h]|simp[h1',h2',hlt,hgu,h]))))
     refine aA hv (by simp [V.a]) ?_
     generalize a.v.valid=B at *
     cases B with
     | false =>
       simp
       all_goals exact gz
     | true =>
       by_cases hk1:a.v.k=1
       ·simp [hk1]
        (repeat' (first|contradiction|exact .ok|apply And.intro|intro _|(refine gc (fun h=>?_) (fun h=>?_)<;>(have h':=h;(try simp at h');first|done|simp[h,h',hk1]|simp[hk1]))))
        all_goals (try simp [h1',h2'])
       ·simp [hk1]
        (repeat' (first|contradiction|exact .ok|apply And.intro|intro _|(refine gc (fun h=>?_) (fun h=>?_)<;>(have h':=h;(try simp at h');first|done|simp[h,h',hk1]|simp[hk1]))))
        all_goals (try simp [h1',h2']))
   have n16:¬ a.op=16:=fun h=>h16 (.inl h)
   have n17:¬ a.op=17:=fun h=>h16 (.inr (.inl h))
   have n18:¬ a.op=18:=fun h=>h16 (.inr (.inr (.inl h)))
   have n19:¬ a.op=19:=fun h=>h16 (.inr (.inr (.inr h)))
   rw [if_neg (by omega),if_neg h16]
   by_cases h21:a.op=21
   ·rw [if_pos h21,hne]
    simp [h1',h2',hlt,hgu,Col.c,h21]
    (repeat' (first|contradiction|exact .ok|apply And.intro|intro _|(refine gc (fun h=>?_) (fun h=>?_)<;>(have h':=h;(try simp at h');first|done|simp[h,h',h1',h2',hlt,hgu,h14,h15,n16,n17,n18,n19,h21]|simp[h1',h2',hlt,hgu,h14,h15,n16,n17,n18,n19,h21]))))
   by_cases h5:a.op=5
   ·rw [if_neg h21,if_pos h5,hne]
    by_cases e1:a.v.k=0∧a.v.n=0∧a.v.t=[]
    ·obtain ⟨e1,e2,e3⟩:=e1
     simp [h1',h2',hlt,hgu,Col.c,h5,e1,e2,e3]
     (repeat' (first|contradiction|exact .ok|apply And.intro|intro _|(refine gc (fun h=>?_) (fun h=>?_)<;>(have h':=h;(try simp at h');first|done|simp[h,h',h1',h2',hlt,hgu,h14,h15,n16,n17,n18,n19,h21,h5,e1,e2,e3]|simp[h1',h2',hlt,hgu,h14,h15,n16,n17,n18,n19,h21,h5,e1,e2,e3]))))
    ·have e2:(a.v.k==0&&(a.v.n==0&&a.v.t==[]))=false:=by
      cases hq:(a.v.k==0&&(a.v.n==0&&a.v.t==[])) with
      | false=>rfl
      | true=>exfalso; apply e1; simpa using hq
     simp [h1',h2',hlt,hgu,Col.c,h5]
     (repeat' (first|contradiction|exact .ok|apply And.intro|intro _|(refine gc (fun h=>?_) (fun h=>?_)<;>(have h':=h;(try simp at h');first|done|simp[h,h',h1',h2']|simp[h1',h2',hlt,hgu,h14,h15,n16,n17,n18,n19,h21,h5,e2]))))
   rw [if_neg h21,if_neg h5]
   simp [h1',h2',hlt,hgu,Col.c,h14,h15,n16,n17,n18,n19,h21,h5]
   (repeat' (first|contradiction|exact .ok|apply And.intro|intro _|(refine gc (fun h=>?_) (fun h=>?_)<;>(have h':=h;(try simp at h');first|done|simp[h,h',h1',h2',hlt,hgu,h14,h15,n16,n17,n18,n19,h21,h5]|simp[h1',h2',hlt,hgu,h14,h15,n16,n17,n18,n19,h21,h5]))))
end Go.Proofs.Tryz
