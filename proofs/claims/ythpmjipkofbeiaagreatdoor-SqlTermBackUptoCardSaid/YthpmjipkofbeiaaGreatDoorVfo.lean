import Derived.Test.YthpmjipkofbeiaaGreatDoorTFlq
set_option linter.all false
namespace Go.Proofs.Tryz
open Go.Ab
set_option maxRecDepth 100000
set_option maxHeartbeats 2000000
theorem r_plain (o y n:Int) (t q:List UInt8) (ks:List Tm) (k:Nat):Cf Es 53 [(Tm.mk o y n t q ks).a,.d (.int .i64 k)] [] (.d (.bool (okK o y n t q k))) []:=by
 refine cf_intro mixs (fn:=Tryz.f53) (by kernel_rfl) rfl (by kernel_rfl) (by decide) (by simp) ?_
 have hv1:=ups (r_valid ⟨1,n,[]⟩)
 have hv3:=ups (r_valid ⟨3,0,t⟩)
 have hn1:=r_name t
 have hn2:=r_name q
 by_cases h1:o=1
 ·subst h1
  simp [Tm.a,Tm.c,tmsC_map,okK]
  (repeat' (first|contradiction|exact .ok|apply And.intro|intro _|(refine gc (fun h=>?_) (fun h=>?_)<;>(have h':=h;(try simp at h');first|done|simp[h,h']|simp))))
  all_goals first | done | (simp_all; done) | (simp_all; omega) | (rw [Bool.eq_iff_iff]; simp_all; omega)
 by_cases h2:o=2
 ·subst h2
  simp [Tm.a,Tm.c,tmsC_map,okK]
  (repeat' (first|contradiction|exact .ok|apply And.intro|intro _|(refine gc (fun h=>?_) (fun h=>?_)<;>(have h':=h;(try simp at h');first|done|simp[h,h']|simp))))
  all_goals first | (refine acallT_plain hv1 (by simp [V.a]) ?_; simp; (repeat' (first | contradiction | exact .of (by kernel_rfl) | refine And.intro ?_ ?_ | intro _ | (refine agrd_cases (fun h=>?_) (fun h=>?_) <;> (have h':=h; (try simp at h'); first | done | simp [h,h'] | simp))))) | skip
  all_goals first | done | (simp_all; done) | (simp_all; omega) | (rw [Bool.eq_iff_iff]; simp_all; omega)
 by_cases h3:o=3
 ·subst h3
  simp [Tm.a,Tm.c,tmsC_map,okK]
  (repeat' (first|contradiction|exact .ok|apply And.intro|intro _|(refine gc (fun h=>?_) (fun h=>?_)<;>(have h':=h;(try simp at h');first|done|simp[h,h']|simp))))
  all_goals first | done | (simp_all; done) | (simp_all; omega) | (rw [Bool.eq_iff_iff]; simp_all; omega)
 by_cases h4:o=4
 ·subst h4
  simp [Tm.a,Tm.c,tmsC_map,okK]
  (repeat' (first|contradiction|exact .ok|apply And.intro|intro _|(refine gc (fun h=>?_) (fun h=>?_)<;>(have h':=h;(try simp at h');first|done|simp[h,h']|simp))))
  all_goals first | (refine acallT_plain hv3 (by simp [V.a]) ?_; simp; (repeat' (first | contradiction | exact .of (by kernel_rfl) | refine And.intro ?_ ?_ | intro _ | (refine agrd_cases (fun h=>?_) (fun h=>?_) <;> (have h':=h; (try simp at h'); first | done | simp [h,h'] | simp))))) | skip
  all_goals first | done | (simp_all; done) | (simp_all; omega) | (rw [Bool.eq_iff_iff]; simp_all; omega)
 by_cases h40:o=40
 ·subst h40
  simp [Tm.a,Tm.c,tmsC_map,okK]
  (repeat' (first|contradiction|exact .ok|apply And.intro|intro _|(refine gc (fun h=>?_) (fun h=>?_)<;>(have h':=h;(try simp at h');first|done|simp[h,h']|simp))))
  all_goals first | (refine acallT_plain hn1 (by simp [V.a]) ?_; simp; (repeat' (first | contradiction | exact .of (by kernel_rfl) | refine And.intro ?_ ?_ | intro _ | (refine agrd_cases (fun h=>?_) (fun h=>?_) <;> (have h':=h; (try simp at h'); first | done | simp [h,h'] | simp))))) | skip
  all_goals first | (refine acallT_plain hn2 (by simp [V.a]) ?_; simp; (repeat' (first | contradiction | exact .of (by kernel_rfl) | refine And.intro ?_ ?_ | intro _ | (refine agrd_cases (fun h=>?_) (fun h=>?_) <;> (have h':=h; (try simp at h'); first | done | simp [h,h'] | simp))))) | skip
  all_goals first | done | (simp_all; done) | (simp_all; omega) | (rw [Bool.eq_iff_iff]; simp_all; omega)
 by_cases h41:o=41
 ·subst h41
  simp [Tm.a,Tm.c,tmsC_map,okK]
  (repeat' (first|contradiction|exact .ok|apply And.intro|intro _|(refine gc (fun h=>?_) (fun h=>?_)<;>(have h':=h;(try simp at h');first|done|simp[h,h']|simp))))
  all_goals first | done | (simp_all; done) | (simp_all; omega) | (rw [Bool.eq_iff_iff]; simp_all; omega)
 have hk:okK o y n t q k=(arity o k&&(y==0&&(n==0&&(t==[]&&q==[])))):=by
  unfold okK
  rw [if_neg h1,if_neg h2,if_neg h3,if_neg h4,if_neg h40,if_neg h41]
 rw [hk]
 clear hv1 hv3 hn1 hn2 hk
 generalize hA:arity o k=A
 unfold arity at hA
 simp [Tm.a,Tm.c,tmsC_map,h1,h2,h3,h4,h40,h41]
 (repeat' (first|contradiction|exact .ok|apply And.intro|intro _|(refine gc (fun h=>?_) (fun h=>?_)<;>(have h':=h;(try simp at h');first|done|simp[h,h',h1,h2,h3,h4,h40,h41]|simp[h1,h2,h3,h4,h40,h41]))))
 all_goals first | done | (simp_all; done) | (simp_all; omega) | (by_cases hk1:k=1 <;> simp_all <;> done) | (by_cases hk1:k=1 <;> simp_all <;> omega) | (by_cases hk1:k=3 <;> simp_all <;> done) | (by_cases hk1:k=3 <;> simp_all <;> omega) | (by_cases hk1:k=2 <;> simp_all <;> done) | (by_cases hk1:k=2 <;> simp_all <;> omega) | (by_cases hk1:2≤k <;> simp_all <;> done) | (by_cases hk1:2≤k <;> simp_all <;> omega) | skip
end Go.Proofs.Tryz
