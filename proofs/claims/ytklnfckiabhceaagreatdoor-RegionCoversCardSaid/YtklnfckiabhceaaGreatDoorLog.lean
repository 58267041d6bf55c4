import Derived.Test.YtklnfckiabhceaaGreatDoorKTxt
set_option linter.all false
namespace Go.Proofs.Tryz
open Go.Ab
def nulV:V:=⟨0,0,[]⟩
def boolV (n:Int):V:=if n ≠ 0∧n ≠ 1 then nulV else ⟨2,n,[]⟩
def V.tr (v:V):Int:=if v.k ≠ 2 then 2 else if v.n=1 then 1 else 0
def ofV (b:Bool):V:=if b=true then ⟨2,1,[]⟩ else ⟨2,0,[]⟩
def eqV (a b:V):V:=if a.k=0∨b.k=0 then nulV else ofV (a.same b)
def lessV (a b:V):V:=if a.k=0∨b.k=0 then nulV else ofV (decide (a.cmp b<0))
def andV (a b:V):V:=if a.tr=0∨b.tr=0 then ⟨2,0,[]⟩ else if a.tr=2∨b.tr=2 then nulV else ⟨2,1,[]⟩
def orV (a b:V):V:=if a.tr=1∨b.tr=1 then ⟨2,1,[]⟩ else if a.tr=2∨b.tr=2 then nulV else ⟨2,0,[]⟩
def notV (a:V):V:=if a.tr=0 then ⟨2,1,[]⟩ else if a.tr=1 then ⟨2,0,[]⟩ else nulV
theorem V.tr_cases (v:V):v.tr=0∨v.tr=1∨v.tr=2:=by unfold V.tr; grind
theorem boolV0:boolV 0=⟨2,0,[]⟩:=by simp [boolV]
theorem boolV1:boolV 1=⟨2,1,[]⟩:=by simp [boolV]
theorem v_truth (v:V):Cf En 47 [v.a] [] (.d (.int .i64 v.tr)) []:=by
 refine cf_intro mix (fn:=Tryz.f47) (by kernel_rfl) rfl (by kernel_rfl) (by decide) (by simp) ?_
 simp [V.a,V.tr]
 repeat' (first | intro _ | refine And.intro ?_ ?_)
 all_goals first | exact .of (by kernel_rfl) | skip
 all_goals grind
theorem r_truth (v:V):Cf En 60 [v.a] [] (.d (.int .i64 v.tr)) []:=by
 refine cf_intro mix (fn:=Tryz.f60) (by kernel_rfl) rfl (by kernel_rfl) (by decide) (by simp) ?_
 simp [V.a,V.tr]
 repeat' (first | intro _ | refine And.intro ?_ ?_)
 all_goals first | exact .of (by kernel_rfl) | skip
 all_goals grind
theorem v_bool (n:Int):Cf En 155 [.d (.int .i64 n)] [] (boolV n).a []:=by
 refine cf_intro mix (fn:=Tryz.f155) (by kernel_rfl) rfl (by kernel_rfl) (by decide) (by simp) ?_
 by_cases h0:n=0
 ·subst h0
  simp [V.a,boolV,IntKind.wrap_i64]
  repeat' (first | exact .of (by kernel_rfl) | refine And.intro ?_ ?_)
 by_cases h1:n=1
 ·subst h1
  simp [V.a,boolV,IntKind.wrap_i64]
  repeat' (first | exact .of (by kernel_rfl) | refine And.intro ?_ ?_)
 simp [V.a,boolV,h0,h1,nulV]
 repeat' (first | exact .of (by kernel_rfl) | refine And.intro ?_ ?_)
 (repeat' (first|contradiction|exact .ok|apply And.intro|intro _|(refine gc (fun h=>?_) (fun h=>?_)<;>(have i:=h;(try simp at i);first|done|simp[h,i,h0,h1]|simp[h0,h1]))))
theorem r_bool (n:Int):Cf En 102 [.d (.int .i64 n)] [] (boolV n).a []:=by
 refine cf_intro mix (fn:=Tryz.f102) (by kernel_rfl) rfl (by kernel_rfl) (by decide) (by simp) ?_
 by_cases h0:n=0
 ·subst h0
  simp [V.a,boolV,IntKind.wrap_i64]
  repeat' (first | exact .of (by kernel_rfl) | refine And.intro ?_ ?_)
 by_cases h1:n=1
 ·subst h1
  simp [V.a,boolV,IntKind.wrap_i64]
  repeat' (first | exact .of (by kernel_rfl) | refine And.intro ?_ ?_)
 simp [V.a,boolV,h0,h1,nulV]
 repeat' (first | exact .of (by kernel_rfl) | refine And.intro ?_ ?_)
 (repeat' (first|contradiction|exact .ok|apply And.intro|intro _|(refine gc (fun h=>?_) (fun h=>?_)<;>(have i:=h;(try simp at i);first|done|simp[h,i,h0,h1]|simp[h0,h1]))))
theorem v_of (b:Bool):Cf En 184 [.d (.bool b)] [] (ofV b).a []:=by
 refine cf_intro mix (fn:=Tryz.f184) (by kernel_rfl) rfl (by kernel_rfl) (by decide) (by simp) ?_
 cases b
 ·simp
  (repeat' (first|contradiction|exact .ok|apply And.intro|intro _|(refine gc (fun h=>?_) (fun h=>?_)<;>(have i:=h;(try simp at i);first|done|simp[h,i]|simp))))
  refine acallT_plain (v_bool 0) (by simp [V.a]) ?_
  simp [boolV0,ofV,V.a]
  all_goals exact gz
 ·simp
  (repeat' (first|contradiction|exact .ok|apply And.intro|intro _|(refine gc (fun h=>?_) (fun h=>?_)<;>(have i:=h;(try simp at i);first|done|simp[h,i]|simp))))
  refine acallT_plain (v_bool 1) (by simp [V.a]) ?_
  simp [boolV1,ofV,V.a]
  all_goals exact gz
theorem r_of (b:Bool):Cf En 110 [.d (.bool b)] [] (ofV b).a []:=by
 refine cf_intro mix (fn:=Tryz.f110) (by kernel_rfl) rfl (by kernel_rfl) (by decide) (by simp) ?_
 cases b
 ·simp
  (repeat' (first|contradiction|exact .ok|apply And.intro|intro _|(refine gc (fun h=>?_) (fun h=>?_)<;>(have i:=h;(try simp at i);first|done|simp[h,i]|simp))))
  refine acallT_plain (r_bool 0) (by simp [V.a]) ?_
  simp [boolV0,ofV,V.a]
  all_goals exact gz
 ·simp
  (repeat' (first|contradiction|exact .ok|apply And.intro|intro _|(refine gc (fun h=>?_) (fun h=>?_)<;>(have i:=h;(try simp at i);first|done|simp[h,i]|simp))))
  refine acallT_plain (r_bool 1) (by simp [V.a]) ?_
  simp [boolV1,ofV,V.a]
  all_goals exact gz
theorem v_eq (a b:V):Cf En 148 [a.a,b.a] [] (eqV a b).a []:=by
 refine cf_intro mix (fn:=Tryz.f148) (by kernel_rfl) rfl (by kernel_rfl) (by decide) (by simp) ?_
 by_cases h1:a.k=0
 ·rw [show eqV a b=nulV from by simp [eqV,h1]]
  simp [V.a,h1,nulV]
  (repeat' (first|contradiction|exact .ok|apply And.intro|intro _|(refine gc (fun h=>?_) (fun h=>?_)<;>(have i:=h;(try simp at i);first|done|simp[h,i,h1]|simp[h1]))))
 by_cases h2:b.k=0
 ·rw [show eqV a b=nulV from by simp [eqV,h2]]
  simp [V.a,h1,h2,nulV]
  (repeat' (first|contradiction|exact .ok|apply And.intro|intro _|(refine gc (fun h=>?_) (fun h=>?_)<;>(have i:=h;(try simp at i);first|done|simp[h,i,h1,h2]|simp[h1,h2]))))
 rw [show eqV a b=ofV (a.same b) from by simp [eqV,h1,h2]]
 simp [V.a,h1,h2]
 (repeat' (first|contradiction|exact .ok|apply And.intro|intro _|(refine gc (fun h=>?_) (fun h=>?_)<;>(have i:=h;(try simp at i);first|done|simp[h,i,h1,h2]|simp[h1,h2]))))
 refine acallT_plain (v_same a b) (by simp [V.a]) ?_
 simp
 refine acallT_plain (v_of (a.same b)) (by simp [V.a]) ?_
 simp [V.a]
 all_goals exact gz
theorem r_eq (a b:V):Cf En 107 [a.a,b.a] [] (eqV a b).a []:=by
 refine cf_intro mix (fn:=Tryz.f107) (by kernel_rfl) rfl (by kernel_rfl) (by decide) (by simp) ?_
 by_cases h1:a.k=0
 ·rw [show eqV a b=nulV from by simp [eqV,h1]]
  simp [V.a,h1,nulV]
  (repeat' (first|contradiction|exact .ok|apply And.intro|intro _|(refine gc (fun h=>?_) (fun h=>?_)<;>(have i:=h;(try simp at i);first|done|simp[h,i,h1]|simp[h1]))))
 by_cases h2:b.k=0
 ·rw [show eqV a b=nulV from by simp [eqV,h2]]
  simp [V.a,h1,h2,nulV]
  (repeat' (first|contradiction|exact .ok|apply And.intro|intro _|(refine gc (fun h=>?_) (fun h=>?_)<;>(have i:=h;(try simp at i);first|done|simp[h,i,h1,h2]|simp[h1,h2]))))
 rw [show eqV a b=ofV (a.same b) from by simp [eqV,h1,h2]]
 simp [V.a,h1,h2]
 (repeat' (first|contradiction|exact .ok|apply And.intro|intro _|(refine gc (fun h=>?_) (fun h=>?_)<;>(have i:=h;(try simp at i);first|done|simp[h,i,h1,h2]|simp[h1,h2]))))
 refine acallT_plain (r_same a b) (by simp [V.a]) ?_
 simp [← V.same_cmp]
 refine acallT_plain (r_of (a.same b)) (by simp [V.a]) ?_
 simp [V.a]
 all_goals exact gz
theorem v_less (a b:V):Cf En 150 [a.a,b.a] [] (lessV a b).a []:=by
 refine cf_intro mix (fn:=Tryz.f150) (by kernel_rfl) rfl (by kernel_rfl) (by decide) (by simp) ?_
 by_cases h1:a.k=0
 ·rw [show lessV a b=nulV from by simp [lessV,h1]]
  simp [V.a,h1,nulV]
  (repeat' (first|contradiction|exact .ok|apply And.intro|intro _|(refine gc (fun h=>?_) (fun h=>?_)<;>(have i:=h;(try simp at i);first|done|simp[h,i,h1]|simp[h1]))))
 by_cases h2:b.k=0
 ·rw [show lessV a b=nulV from by simp [lessV,h2]]
  simp [V.a,h1,h2,nulV]
  (repeat' (first|contradiction|exact .ok|apply And.intro|intro _|(refine gc (fun h=>?_) (fun h=>?_)<;>(have i:=h;(try simp at i);first|done|simp[h,i,h1,h2]|simp[h1,h2]))))
 rw [show lessV a b=ofV (decide (a.cmp b<0)) from by simp [lessV,h1,h2]]
 simp [V.a,h1,h2]
 (repeat' (first|contradiction|exact .ok|apply And.intro|intro _|(refine gc (fun h=>?_) (fun h=>?_)<;>(have i:=h;(try simp at i);first|done|simp[h,i,h1,h2]|simp[h1,h2]))))
 refine acallT_plain (v_compare a b) (by simp [V.a]) ?_
 simp
 refine acallT_plain (v_of (decide (a.cmp b<0))) (by simp [V.a]) ?_
 simp [V.a]
 all_goals exact gz
theorem r_less (a b:V):Cf En 109 [a.a,b.a] [] (lessV a b).a []:=by
 refine cf_intro mix (fn:=Tryz.f109) (by kernel_rfl) rfl (by kernel_rfl) (by decide) (by simp) ?_
 by_cases h1:a.k=0
 ·rw [show lessV a b=nulV from by simp [lessV,h1]]
  simp [V.a,h1,nulV]
  (repeat' (first|contradiction|exact .ok|apply And.intro|intro _|(refine gc (fun h=>?_) (fun h=>?_)<;>(have i:=h;(try simp at i);first|done|simp[h,i,h1]|simp[h1]))))
 by_cases h2:b.k=0
 ·rw [show lessV a b=nulV from by simp [lessV,h2]]
  simp [V.a,h1,h2,nulV]
  (repeat' (first|contradiction|exact .ok|apply And.intro|intro _|(refine gc (fun h=>?_) (fun h=>?_)<;>(have i:=h;(try simp at i);first|done|simp[h,i,h1,h2]|simp[h1,h2]))))
 rw [show lessV a b=ofV (decide (a.cmp b<0)) from by simp [lessV,h1,h2]]
 simp [V.a,h1,h2]
 (repeat' (first|contradiction|exact .ok|apply And.intro|intro _|(refine gc (fun h=>?_) (fun h=>?_)<;>(have i:=h;(try simp at i);first|done|simp[h,i,h1,h2]|simp[h1,h2]))))
 refine acallT_plain (r_compare a b) (by simp [V.a]) ?_
 simp
 refine acallT_plain (r_of (decide (a.cmp b<0))) (by simp [V.a]) ?_
 simp [V.a]
 all_goals exact gz
theorem v_and (a b:V):Cf En 153 [a.a,b.a] [] (andV a b).a []:=by
 refine cf_intro mix (fn:=Tryz.f153) (by kernel_rfl) rfl (by kernel_rfl) (by decide) (by simp) ?_
 simp [V.a]
 (repeat' (first|contradiction|exact .ok|apply And.intro|intro _|(refine gc (fun h=>?_) (fun h=>?_)<;>(have i:=h;(try simp at i);first|done|simp[h,i]|simp))))
 refine acallT_plain (v_truth a) (by simp [V.a]) ?_
 simp
 refine acallT_plain (v_truth b) (by simp [V.a]) ?_
 rcases a.tr_cases with ha | ha | ha <;> rcases b.tr_cases with hb | hb | hb <;> simp [ha,hb] <;> (repeat' (first | contradiction | exact .of (by kernel_rfl) | refine And.intro ?_ ?_ | intro _ | (refine agrd_cases (fun h=>?_) (fun h=>?_) <;> (have h':=h; (try simp at h'); first | done | simp [h,h',ha,hb] | simp [ha,hb]))))
 all_goals first
  | (simp [andV,ha,hb,nulV]; done)
  | (refine acallT_plain (v_bool 0) ?_ ?_; focus (simp; done)
     simp [boolV0,V.a]; (repeat' (first | contradiction | exact .of (by kernel_rfl) | refine And.intro ?_ ?_ | intro _ | (refine agrd_cases (fun h=>?_) (fun h=>?_) <;> (have h':=h; (try simp at h'); first | done | simp [h,h'] | simp)))); all_goals simp [andV,ha,hb]; done)
  | (refine acallT_plain (v_bool 1) ?_ ?_; focus (simp; done)
     simp [boolV1,V.a]; (repeat' (first | contradiction | exact .of (by kernel_rfl) | refine And.intro ?_ ?_ | intro _ | (refine agrd_cases (fun h=>?_) (fun h=>?_) <;> (have h':=h; (try simp at h'); first | done | simp [h,h'] | simp)))); all_goals simp [andV,ha,hb]; done)
theorem v_or (a b:V):Cf En 154 [a.a,b.a] [] (orV a b).a []:=by
 refine cf_intro mix (fn:=Tryz.f154) (by kernel_rfl) rfl (by kernel_rfl) (by decide) (by simp) ?_
 simp [V.a]
 (repeat' (first|contradiction|exact .ok|apply And.intro|intro _|(refine gc (fun h=>?_) (fun h=>?_)<;>(have i:=h;(try simp at i);first|done|simp[h,i]|simp))))
 refine acallT_plain (v_truth a) (by simp [V.a]) ?_
 simp
 refine acallT_plain (v_truth b) (by simp [V.a]) ?_
 rcases a.tr_cases with ha | ha | ha <;> rcases b.tr_cases with hb | hb | hb <;> simp [ha,hb] <;> (repeat' (first | contradiction | exact .of (by kernel_rfl) | refine And.intro ?_ ?_ | intro _ | (refine agrd_cases (fun h=>?_) (fun h=>?_) <;> (have h':=h; (try simp at h'); first | done | simp [h,h',ha,hb] | simp [ha,hb]))))
 all_goals first
  | (simp [orV,ha,hb,nulV]; done)
  | (refine acallT_plain (v_bool 0) ?_ ?_; focus (simp; done)
     simp [boolV0,V.a]; (repeat' (first | contradiction | exact .of (by kernel_rfl) | refine And.intro ?_ ?_ | intro _ | (refine agrd_cases (fun h=>?_) (fun h=>?_) <;> (have h':=h; (try simp at h'); first | done | simp [h,h'] | simp)))); all_goals simp [orV,ha,hb]; done)
  | (refine acallT_plain (v_bool 1) ?_ ?_; focus (simp; done)
     simp [boolV1,V.a]; (repeat' (first | contradiction | exact .of (by kernel_rfl) | refine And.intro ?_ ?_ | intro _ | (refine agrd_cases (fun h=>?_) (fun h=>?_) <;> (have h':=h; (try simp at h'); first | done | simp [h,h'] | simp)))); all_goals simp [orV,ha,hb]; done)
theorem v_not (a:V):Cf En 149 [a.a] [] (notV a).a []:=by
 refine cf_intro mix (fn:=Tryz.f149) (by kernel_rfl) rfl (by kernel_rfl) (by decide) (by simp) ?_
 simp [V.a]
 (repeat' (first|contradiction|exact .ok|apply And.intro|intro _|(refine gc (fun h=>?_) (fun h=>?_)<;>(have i:=h;(try simp at i);first|done|simp[h,i]|simp))))
 refine acallT_plain (v_truth a) (by simp [V.a]) ?_
 rcases a.tr_cases with ha | ha | ha <;> simp [ha,IntKind.wrap_i64] <;> (repeat' (first | contradiction | exact .of (by kernel_rfl) | refine And.intro ?_ ?_ | intro _ | (refine agrd_cases (fun h=>?_) (fun h=>?_) <;> (have h':=h; (try simp at h'); first | done | simp [h,h',ha] | simp [ha]))))
 all_goals first
  | (simp [notV,ha,nulV]; done)
  | (refine acallT_plain (v_bool 0) ?_ ?_; focus (simp; done)
     simp [boolV0,V.a]; (repeat' (first | contradiction | exact .of (by kernel_rfl) | refine And.intro ?_ ?_ | intro _ | (refine agrd_cases (fun h=>?_) (fun h=>?_) <;> (have h':=h; (try simp at h'); first | done | simp [h,h'] | simp)))); all_goals simp [notV,ha]; done)
  | (refine acallT_plain (v_bool 1) ?_ ?_; focus (simp; done)
     simp [boolV1,V.a]; (repeat' (first | contradiction | exact .of (by kernel_rfl) | refine And.intro ?_ ?_ | intro _ | (refine agrd_cases (fun h=>?_) (fun h=>?_) <;> (have h':=h; (try simp at h'); first | done | simp [h,h'] | simp)))); all_goals simp [notV,ha]; done)
theorem r_and (a b:V):Cf En 111 [a.a,b.a] [] (andV a b).a []:=by
 refine cf_intro mix (fn:=Tryz.f111) (by kernel_rfl) rfl (by kernel_rfl) (by decide) (by simp) ?_
 simp [V.a]
 (repeat' (first|contradiction|exact .ok|apply And.intro|intro _|(refine gc (fun h=>?_) (fun h=>?_)<;>(have i:=h;(try simp at i);first|done|simp[h,i]|simp))))
 refine acallT_plain (r_truth a) (by simp [V.a]) ?_
 simp
 refine acallT_plain (r_truth b) (by simp [V.a]) ?_
 rcases a.tr_cases with ha | ha | ha <;> rcases b.tr_cases with hb | hb | hb <;> simp [ha,hb] <;> (repeat' (first | contradiction | exact .of (by kernel_rfl) | refine And.intro ?_ ?_ | intro _ | (refine agrd_cases (fun h=>?_) (fun h=>?_) <;> (have h':=h; (try simp at h'); first | done | simp [h,h',ha,hb] | simp [ha,hb]))))
 all_goals first
  | (simp [andV,ha,hb,nulV]; done)
  | (refine acallT_plain (r_bool 0) ?_ ?_; focus (simp; done)
     simp [boolV0,V.a]; (repeat' (first | contradiction | exact .of (by kernel_rfl) | refine And.intro ?_ ?_ | intro _ | (refine agrd_cases (fun h=>?_) (fun h=>?_) <;> (have h':=h; (try simp at h'); first | done | simp [h,h'] | simp)))); all_goals simp [andV,ha,hb]; done)
  | (refine acallT_plain (r_bool 1) ?_ ?_; focus (simp; done)
     simp [boolV1,V.a]; (repeat' (first | contradiction | exact .of (by kernel_rfl) | refine And.intro ?_ ?_ | intro _ | (refine agrd_cases (fun h=>?_) (fun h=>?_) <;> (have h':=h; (try simp at h'); first | done | simp [h,h'] | simp)))); all_goals simp [andV,ha,hb]; done)
theorem r_or (a b:V):Cf En 112 [a.a,b.a] [] (orV a b).a []:=by
 refine cf_intro mix (fn:=Tryz.f112) (by kernel_rfl) rfl (by kernel_rfl) (by decide) (by simp) ?_
 simp [V.a]
 (repeat' (first|contradiction|exact .ok|apply And.intro|intro _|(refine gc (fun h=>?_) (fun h=>?_)<;>(have i:=h;(try simp at i);first|done|simp[h,i]|simp))))
 refine acallT_plain (r_truth a) (by simp [V.a]) ?_
 simp
 refine acallT_plain (r_truth b) (by simp [V.a]) ?_
 rcases a.tr_cases with ha | ha | ha <;> rcases b.tr_cases with hb | hb | hb <;> simp [ha,hb] <;> (repeat' (first | contradiction | exact .of (by kernel_rfl) | refine And.intro ?_ ?_ | intro _ | (refine agrd_cases (fun h=>?_) (fun h=>?_) <;> (have h':=h; (try simp at h'); first | done | simp [h,h',ha,hb] | simp [ha,hb]))))
 all_goals first
  | (simp [orV,ha,hb,nulV]; done)
  | (refine acallT_plain (r_bool 0) ?_ ?_; focus (simp; done)
     simp [boolV0,V.a]; (repeat' (first | contradiction | exact .of (by kernel_rfl) | refine And.intro ?_ ?_ | intro _ | (refine agrd_cases (fun h=>?_) (fun h=>?_) <;> (have h':=h; (try simp at h'); first | done | simp [h,h'] | simp)))); all_goals simp [orV,ha,hb]; done)
  | (refine acallT_plain (r_bool 1) ?_ ?_; focus (simp; done)
     simp [boolV1,V.a]; (repeat' (first | contradiction | exact .of (by kernel_rfl) | refine And.intro ?_ ?_ | intro _ | (refine agrd_cases (fun h=>?_) (fun h=>?_) <;> (have h':=h; (try simp at h'); first | done | simp [h,h'] | simp)))); all_goals simp [orV,ha,hb]; done)
theorem r_not (a:V):Cf En 108 [a.a] [] (notV a).a []:=by
 refine cf_intro mix (fn:=Tryz.f108) (by kernel_rfl) rfl (by kernel_rfl) (by decide) (by simp) ?_
 simp [V.a]
 (repeat' (first|contradiction|exact .ok|apply And.intro|intro _|(refine gc (fun h=>?_) (fun h=>?_)<;>(have i:=h;(try simp at i);first|done|simp[h,i]|simp))))
 refine acallT_plain (r_truth a) (by simp [V.a]) ?_
 rcases a.tr_cases with ha | ha | ha <;> simp [ha,IntKind.wrap_i64] <;> (repeat' (first | contradiction | exact .of (by kernel_rfl) | refine And.intro ?_ ?_ | intro _ | (refine agrd_cases (fun h=>?_) (fun h=>?_) <;> (have h':=h; (try simp at h'); first | done | simp [h,h',ha] | simp [ha]))))
 all_goals first
  | (simp [notV,ha,nulV]; done)
  | (refine acallT_plain (r_bool 0) ?_ ?_; focus (simp; done)
     simp [boolV0,V.a]; (repeat' (first | contradiction | exact .of (by kernel_rfl) | refine And.intro ?_ ?_ | intro _ | (refine agrd_cases (fun h=>?_) (fun h=>?_) <;> (have h':=h; (try simp at h'); first | done | simp [h,h'] | simp)))); all_goals simp [notV,ha]; done)
  | (refine acallT_plain (r_bool 1) ?_ ?_; focus (simp; done)
     simp [boolV1,V.a]; (repeat' (first | contradiction | exact .of (by kernel_rfl) | refine And.intro ?_ ?_ | intro _ | (refine agrd_cases (fun h=>?_) (fun h=>?_) <;> (have h':=h; (try simp at h'); first | done | simp [h,h'] | simp)))); all_goals simp [notV,ha]; done)
end Go.Proofs.Tryz
