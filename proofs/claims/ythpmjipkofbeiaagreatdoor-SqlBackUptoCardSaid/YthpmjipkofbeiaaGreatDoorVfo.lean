import Derived.Test.YthpmjipkofbeiaaGreatDoorUTpn
set_option linter.all false
namespace Go.Proofs.Tryz
open Go.Ab
set_option maxRecDepth 100000
set_option maxHeartbeats 2000000
theorem aJn (o y n:Int) (t q:List UInt8) (ks:List Tm) (k:Nat):Cf Es 53 [(Tm.mk o y n t q ks).a,.d (.int .i64 k)] [] (.d (.bool (RA o y n t q k))) []:=by
 refine cI bI (fn:=Tryz.f53) rfl ?_
 have hv1:=iQ (oY ⟨1,n,[]⟩)
 have hv3:=iQ (oY ⟨3,0,t⟩)
 have hn1:=CL t
 have hn2:=CL q
 by_cases h1:o=1
 ·subst h1
  simp [Tm.a,Tm.c,aS,RA]
  (repeat' (first|contradiction|exact .ok|apply And.intro|intro _|(refine gc (fun h=>?_) (fun h=>?_)<;>(have h':=h;(try simp at h');first|done|simp[h,h']|simp))))
  all_goals first | done | (simp_all; done) | (simp_all; omega) | (rw [Bool.eq_iff_iff]; simp_all; omega)
 by_cases h2:o=2
 ·subst h2
  simp [Tm.a,Tm.c,aS,RA]
  (repeat' (first|contradiction|exact .ok|apply And.intro|intro _|(refine gc (fun h=>?_) (fun h=>?_)<;>(have h':=h;(try simp at h');first|done|simp[h,h']|simp))))
  all_goals first | (refine aA hv1 (by simp [V.a]) ?_; simp; (repeat' (first|contradiction|exact .ok|apply And.intro|intro _|(refine gc (fun h=>?_) (fun h=>?_)<;>(have h':=h;(try simp at h');first|done|simp[h,h']|simp))))) | skip
  all_goals first | done | (simp_all; done) | (simp_all; omega) | (rw [Bool.eq_iff_iff]; simp_all; omega)
 by_cases h3:o=3
 ·subst h3
  simp [Tm.a,Tm.c,aS,RA]
  (repeat' (first|contradiction|exact .ok|apply And.intro|intro _|(refine gc (fun h=>?_) (fun h=>?_)<;>(have h':=h;(try simp at h');first|done|simp[h,h']|simp))))
  all_goals first | done | (simp_all; done) | (simp_all; omega) | (rw [Bool.eq_iff_iff]; simp_all; omega)
 by_cases h4:o=4
 ·subst h4
  simp [Tm.a,Tm.c,aS,RA]
  (repeat' (first|contradiction|exact .ok|apply And.intro|intro _|(refine gc (fun h=>?_) (fun h=>?_)<;>(have h':=h;(try simp at h');first|done|simp[h,h']|simp))))
  all_goals first | (refine aA hv3 (by simp [V.a]) ?_; simp; (repeat' (first|contradiction|exact .ok|apply And.intro|intro _|(refine gc (fun h=>?_) (fun h=>?_)<;>(have h':=h;(try simp at h');first|done|simp[h,h']|simp))))) | skip
  all_goals first | done | (simp_all; done) | (simp_all; omega) | (rw [Bool.eq_iff_iff]; simp_all; omega)
 by_cases h40:o=40
 ·subst h40
  simp [Tm.a,Tm.c,aS,RA]
  (repeat' (first|contradiction|exact .ok|apply And.intro|intro _|(refine gc (fun h=>?_) (fun h=>?_)<;>(have h':=h;(try simp at h');first|done|simp[h,h']|simp))))
  all_goals first | (refine aP hn1 ?_; simp; (repeat' (first|contradiction|exact .ok|apply And.intro|intro _|(refine gc (fun h=>?_) (fun h=>?_)<;>(have h':=h;(try simp at h');first|done|simp[h,h']|simp))))) | skip
  all_goals first | (refine aP hn2 ?_; simp; (repeat' (first|contradiction|exact .ok|apply And.intro|intro _|(refine gc (fun h=>?_) (fun h=>?_)<;>(have h':=h;(try simp at h');first|done|simp[h,h']|simp))))) | skip
  all_goals first | done | (simp_all; done) | (simp_all; omega) | (rw [Bool.eq_iff_iff]; simp_all; omega)
 by_cases h41:o=41
 ·subst h41
  simp [Tm.a,Tm.c,aS,RA]
  (repeat' (first|contradiction|exact .ok|apply And.intro|intro _|(refine gc (fun h=>?_) (fun h=>?_)<;>(have h':=h;(try simp at h');first|done|simp[h,h']|simp))))
  all_goals first | done | (simp_all; done) | (simp_all; omega) | (rw [Bool.eq_iff_iff]; simp_all; omega)
 have hk:RA o y n t q k=(NS o k&&(y==0&&(n==0&&(t==[]&&q==[])))):=by
  unfold RA
  rw [if_neg h1,if_neg h2,if_neg h3,if_neg h4,if_neg h40,if_neg h41]
 rw [hk]
 clear hv1 hv3 hn1 hn2 hk
 generalize hA:NS o k=A
 unfold NS at hA
 simp [Tm.a,Tm.c,aS,h1,h2,h3,h4,h40,h41]
 (repeat' (first|contradiction|exact .ok|apply And.intro|intro _|(refine gc (fun h=>?_) (fun h=>?_)<;>(have h':=h;(try simp at h');first|done|simp[h,h']|simp[h1,h2,h3,h4,h40,h41]))))
 all_goals first | done | (simp_all; done) | (simp_all; omega) | (by_cases hk1:k=1 <;> simp_all <;> done) | (by_cases hk1:k=1 <;> simp_all <;> omega) | (by_cases hk1:k=3 <;> simp_all <;> done) | (by_cases hk1:k=3 <;> simp_all <;> omega) | (by_cases hk1:k=2 <;> simp_all <;> done) | (by_cases hk1:k=2 <;> simp_all <;> omega) | (by_cases hk1:2≤k <;> simp_all <;> done) | (by_cases hk1:2≤k <;> simp_all <;> omega) | skip
end Go.Proofs.Tryz
