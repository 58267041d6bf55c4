import Derived.Test.YthbnleoonldffaaGreatDoorQExp
set_option linter.all false
namespace Go.Proofs.Tryz
open Go.Ab
def nulV:V:=⟨0,0,[]⟩
def pC (n:Int):V:=if n ≠ 0∧n ≠ 1 then nulV else ⟨2,n,[]⟩
def V.tr (v:V):Int:=if v.k ≠ 2 then 2 else if v.n=1 then 1 else 0
def vR (b:Bool):V:=if b=true then ⟨2,1,[]⟩ else ⟨2,0,[]⟩
def pD (a b:V):V:=if a.k=0∨b.k=0 then nulV else vR (a.same b)
def eL (a b:V):V:=if a.k=0∨b.k=0 then nulV else vR (decide (a.cmp b<0))
def AP (a b:V):V:=if a.tr=0∨b.tr=0 then ⟨2,0,[]⟩ else if a.tr=2∨b.tr=2 then nulV else ⟨2,1,[]⟩
def HV (a b:V):V:=if a.tr=1∨b.tr=1 then ⟨2,1,[]⟩ else if a.tr=2∨b.tr=2 then nulV else ⟨2,0,[]⟩
def nM (a:V):V:=if a.tr=0 then ⟨2,1,[]⟩ else if a.tr=1 then ⟨2,0,[]⟩ else nulV
theorem V.tr_cases (v:V):v.tr=0∨v.tr=1∨v.tr=2:=by unfold V.tr; grind
theorem lJ:pC 0=⟨2,0,[]⟩:=by simp [pC]
theorem mU:pC 1=⟨2,1,[]⟩:=by simp [pC]
theorem mK (v:V):Cf En 126 [v.a] [] (.d (.int .i64 v.tr)) []:=by
 refine aD aW (fn:=Tryz.f126) (by kernel_rfl) rfl (by kernel_rfl) (by decide) (by simp) ?_
 simp [V.a,V.tr]
 repeat' (first | intro _ | refine And.intro ?_ ?_)
 all_goals first | exact .of (by kernel_rfl) | skip
 all_goals grind
theorem jF (v:V):Cf En 108 [v.a] [] (.d (.int .i64 v.tr)) []:=by
 refine aD aW (fn:=Tryz.f108) (by kernel_rfl) rfl (by kernel_rfl) (by decide) (by simp) ?_
 simp [V.a,V.tr]
 repeat' (first | intro _ | refine And.intro ?_ ?_)
 all_goals first | exact .of (by kernel_rfl) | skip
 all_goals grind
theorem lK (n:Int):Cf En 279 [.d (.int .i64 n)] [] (pC n).a []:=by
 refine aD aW (fn:=Tryz.f279) (by kernel_rfl) rfl (by kernel_rfl) (by decide) (by simp) ?_
 by_cases h0:n=0
 ·subst h0
  simp [V.a,pC,IntKind.wrap_i64]
  repeat' (first | exact .of (by kernel_rfl) | refine And.intro ?_ ?_)
 by_cases h1:n=1
 ·subst h1
  simp [V.a,pC,IntKind.wrap_i64]
  repeat' (first | exact .of (by kernel_rfl) | refine And.intro ?_ ?_)
 simp [V.a,pC,h0,h1,nulV]
 repeat' (first | exact .of (by kernel_rfl) | refine And.intro ?_ ?_)
 (repeat' (first|contradiction|exact .ok|apply And.intro|intro _|(refine gc (fun h=>?_) (fun h=>?_)<;>(have h':=h;(try simp at h');first|done|simp[h,h',h0,h1]|simp[h0,h1]))))
theorem mV (n:Int):Cf En 168 [.d (.int .i64 n)] [] (pC n).a []:=by
 refine aD aW (fn:=Tryz.f168) (by kernel_rfl) rfl (by kernel_rfl) (by decide) (by simp) ?_
 by_cases h0:n=0
 ·subst h0
  simp [V.a,pC,IntKind.wrap_i64]
  repeat' (first | exact .of (by kernel_rfl) | refine And.intro ?_ ?_)
 by_cases h1:n=1
 ·subst h1
  simp [V.a,pC,IntKind.wrap_i64]
  repeat' (first | exact .of (by kernel_rfl) | refine And.intro ?_ ?_)
 simp [V.a,pC,h0,h1,nulV]
 repeat' (first | exact .of (by kernel_rfl) | refine And.intro ?_ ?_)
 (repeat' (first|contradiction|exact .ok|apply And.intro|intro _|(refine gc (fun h=>?_) (fun h=>?_)<;>(have h':=h;(try simp at h');first|done|simp[h,h',h0,h1]|simp[h0,h1]))))
theorem aFl (b:Bool):Cf En 341 [.d (.bool b)] [] (vR b).a []:=by
 refine aD aW (fn:=Tryz.f341) (by kernel_rfl) rfl (by kernel_rfl) (by decide) (by simp) ?_
 cases b
 ·simp
  (repeat' (first|contradiction|exact .ok|apply And.intro|intro _|(refine gc (fun h=>?_) (fun h=>?_)<;>(have h':=h;(try simp at h');first|done|simp[h,h']|simp))))
  refine aA (lK 0) (by simp [V.a]) ?_
  simp [lJ,vR,V.a]
  all_goals exact gz
 ·simp
  (repeat' (first|contradiction|exact .ok|apply And.intro|intro _|(refine gc (fun h=>?_) (fun h=>?_)<;>(have h':=h;(try simp at h');first|done|simp[h,h']|simp))))
  refine aA (lK 1) (by simp [V.a]) ?_
  simp [mU,vR,V.a]
  all_goals exact gz
theorem YF (b:Bool):Cf En 174 [.d (.bool b)] [] (vR b).a []:=by
 refine aD aW (fn:=Tryz.f174) (by kernel_rfl) rfl (by kernel_rfl) (by decide) (by simp) ?_
 cases b
 ·simp
  (repeat' (first|contradiction|exact .ok|apply And.intro|intro _|(refine gc (fun h=>?_) (fun h=>?_)<;>(have h':=h;(try simp at h');first|done|simp[h,h']|simp))))
  refine aA (mV 0) (by simp [V.a]) ?_
  simp [lJ,vR,V.a]
  all_goals exact gz
 ·simp
  (repeat' (first|contradiction|exact .ok|apply And.intro|intro _|(refine gc (fun h=>?_) (fun h=>?_)<;>(have h':=h;(try simp at h');first|done|simp[h,h']|simp))))
  refine aA (mV 1) (by simp [V.a]) ?_
  simp [mU,vR,V.a]
  all_goals exact gz
theorem aDH (a b:V):Cf En 272 [a.a,b.a] [] (pD a b).a []:=by
 refine aD aW (fn:=Tryz.f272) (by kernel_rfl) rfl (by kernel_rfl) (by decide) (by simp) ?_
 by_cases h1:a.k=0
 ·rw [show pD a b=nulV from by simp [pD,h1]]
  simp [V.a,h1,nulV]
  (repeat' (first|contradiction|exact .ok|apply And.intro|intro _|(refine gc (fun h=>?_) (fun h=>?_)<;>(have h':=h;(try simp at h');first|done|simp[h,h',h1]|simp[h1]))))
 by_cases h2:b.k=0
 ·rw [show pD a b=nulV from by simp [pD,h2]]
  simp [V.a,h1,h2,nulV]
  (repeat' (first|contradiction|exact .ok|apply And.intro|intro _|(refine gc (fun h=>?_) (fun h=>?_)<;>(have h':=h;(try simp at h');first|done|simp[h,h',h1,h2]|simp[h1,h2]))))
 rw [show pD a b=vR (a.same b) from by simp [pD,h1,h2]]
 simp [V.a,h1,h2]
 (repeat' (first|contradiction|exact .ok|apply And.intro|intro _|(refine gc (fun h=>?_) (fun h=>?_)<;>(have h':=h;(try simp at h');first|done|simp[h,h',h1,h2]|simp[h1,h2]))))
 refine aA (aAP a b) (by simp [V.a]) ?_
 simp
 refine aA (aFl (a.same b)) (by simp [V.a]) ?_
 simp [V.a]
 all_goals exact gz
theorem aBP (a b:V):Cf En 171 [a.a,b.a] [] (pD a b).a []:=by
 refine aD aW (fn:=Tryz.f171) (by kernel_rfl) rfl (by kernel_rfl) (by decide) (by simp) ?_
 by_cases h1:a.k=0
 ·rw [show pD a b=nulV from by simp [pD,h1]]
  simp [V.a,h1,nulV]
  (repeat' (first|contradiction|exact .ok|apply And.intro|intro _|(refine gc (fun h=>?_) (fun h=>?_)<;>(have h':=h;(try simp at h');first|done|simp[h,h',h1]|simp[h1]))))
 by_cases h2:b.k=0
 ·rw [show pD a b=nulV from by simp [pD,h2]]
  simp [V.a,h1,h2,nulV]
  (repeat' (first|contradiction|exact .ok|apply And.intro|intro _|(refine gc (fun h=>?_) (fun h=>?_)<;>(have h':=h;(try simp at h');first|done|simp[h,h',h1,h2]|simp[h1,h2]))))
 rw [show pD a b=vR (a.same b) from by simp [pD,h1,h2]]
 simp [V.a,h1,h2]
 (repeat' (first|contradiction|exact .ok|apply And.intro|intro _|(refine gc (fun h=>?_) (fun h=>?_)<;>(have h':=h;(try simp at h');first|done|simp[h,h',h1,h2]|simp[h1,h2]))))
 refine aA (aAQ a b) (by simp [V.a]) ?_
 simp [← V.same_cmp]
 refine aA (YF (a.same b)) (by simp [V.a]) ?_
 simp [V.a]
 all_goals exact gz
theorem GT (a b:V):Cf En 274 [a.a,b.a] [] (eL a b).a []:=by
 refine aD aW (fn:=Tryz.f274) (by kernel_rfl) rfl (by kernel_rfl) (by decide) (by simp) ?_
 by_cases h1:a.k=0
 ·rw [show eL a b=nulV from by simp [eL,h1]]
  simp [V.a,h1,nulV]
  (repeat' (first|contradiction|exact .ok|apply And.intro|intro _|(refine gc (fun h=>?_) (fun h=>?_)<;>(have h':=h;(try simp at h');first|done|simp[h,h',h1]|simp[h1]))))
 by_cases h2:b.k=0
 ·rw [show eL a b=nulV from by simp [eL,h2]]
  simp [V.a,h1,h2,nulV]
  (repeat' (first|contradiction|exact .ok|apply And.intro|intro _|(refine gc (fun h=>?_) (fun h=>?_)<;>(have h':=h;(try simp at h');first|done|simp[h,h',h1,h2]|simp[h1,h2]))))
 rw [show eL a b=vR (decide (a.cmp b<0)) from by simp [eL,h1,h2]]
 simp [V.a,h1,h2]
 (repeat' (first|contradiction|exact .ok|apply And.intro|intro _|(refine gc (fun h=>?_) (fun h=>?_)<;>(have h':=h;(try simp at h');first|done|simp[h,h',h1,h2]|simp[h1,h2]))))
 refine aA (EU a b) (by simp [V.a]) ?_
 simp
 refine aA (aFl (decide (a.cmp b<0))) (by simp [V.a]) ?_
 simp [V.a]
 all_goals exact gz
theorem GU (a b:V):Cf En 173 [a.a,b.a] [] (eL a b).a []:=by
 refine aD aW (fn:=Tryz.f173) (by kernel_rfl) rfl (by kernel_rfl) (by decide) (by simp) ?_
 by_cases h1:a.k=0
 ·rw [show eL a b=nulV from by simp [eL,h1]]
  simp [V.a,h1,nulV]
  (repeat' (first|contradiction|exact .ok|apply And.intro|intro _|(refine gc (fun h=>?_) (fun h=>?_)<;>(have h':=h;(try simp at h');first|done|simp[h,h',h1]|simp[h1]))))
 by_cases h2:b.k=0
 ·rw [show eL a b=nulV from by simp [eL,h2]]
  simp [V.a,h1,h2,nulV]
  (repeat' (first|contradiction|exact .ok|apply And.intro|intro _|(refine gc (fun h=>?_) (fun h=>?_)<;>(have h':=h;(try simp at h');first|done|simp[h,h',h1,h2]|simp[h1,h2]))))
 rw [show eL a b=vR (decide (a.cmp b<0)) from by simp [eL,h1,h2]]
 simp [V.a,h1,h2]
 (repeat' (first|contradiction|exact .ok|apply And.intro|intro _|(refine gc (fun h=>?_) (fun h=>?_)<;>(have h':=h;(try simp at h');first|done|simp[h,h',h1,h2]|simp[h1,h2]))))
 refine aA (rG a b) (by simp [V.a]) ?_
 simp
 refine aA (YF (decide (a.cmp b<0))) (by simp [V.a]) ?_
 simp [V.a]
 all_goals exact gz
theorem aFm (a b:V):Cf En 277 [a.a,b.a] [] (AP a b).a []:=by
 refine aD aW (fn:=Tryz.f277) (by kernel_rfl) rfl (by kernel_rfl) (by decide) (by simp) ?_
 simp [V.a]
 (repeat' (first|contradiction|exact .ok|apply And.intro|intro _|(refine gc (fun h=>?_) (fun h=>?_)<;>(have h':=h;(try simp at h');first|done|simp[h,h']|simp))))
 refine aA (mK a) (by simp [V.a]) ?_
 simp
 refine aA (mK b) (by simp [V.a]) ?_
 rcases a.tr_cases with ha | ha | ha <;> rcases b.tr_cases with hb | hb | hb <;> simp [ha,hb] <;> (repeat' (first | contradiction | exact .of (by kernel_rfl) | refine And.intro ?_ ?_ | intro _ | (refine aN (fun h=>?_) (fun h=>?_) <;> (have h':=h; (try simp at h'); first | done | simp [h,h',ha,hb] | simp [ha,hb]))))
 all_goals first
  | (simp [AP,ha,hb,nulV]; done)
  | (refine aA (lK 0) ?_ ?_; focus (simp; done)
     simp [lJ,V.a]; (repeat' (first | contradiction | exact .of (by kernel_rfl) | refine And.intro ?_ ?_ | intro _ | (refine aN (fun h=>?_) (fun h=>?_) <;> (have h':=h; (try simp at h'); first | done | simp [h,h'] | simp)))); all_goals simp [AP,ha,hb]; done)
  | (refine aA (lK 1) ?_ ?_; focus (simp; done)
     simp [mU,V.a]; (repeat' (first | contradiction | exact .of (by kernel_rfl) | refine And.intro ?_ ?_ | intro _ | (refine aN (fun h=>?_) (fun h=>?_) <;> (have h':=h; (try simp at h'); first | done | simp [h,h'] | simp)))); all_goals simp [AP,ha,hb]; done)
theorem aFn (a b:V):Cf En 278 [a.a,b.a] [] (HV a b).a []:=by
 refine aD aW (fn:=Tryz.f278) (by kernel_rfl) rfl (by kernel_rfl) (by decide) (by simp) ?_
 simp [V.a]
 (repeat' (first|contradiction|exact .ok|apply And.intro|intro _|(refine gc (fun h=>?_) (fun h=>?_)<;>(have h':=h;(try simp at h');first|done|simp[h,h']|simp))))
 refine aA (mK a) (by simp [V.a]) ?_
 simp
 refine aA (mK b) (by simp [V.a]) ?_
 rcases a.tr_cases with ha | ha | ha <;> rcases b.tr_cases with hb | hb | hb <;> simp [ha,hb] <;> (repeat' (first | contradiction | exact .of (by kernel_rfl) | refine And.intro ?_ ?_ | intro _ | (refine aN (fun h=>?_) (fun h=>?_) <;> (have h':=h; (try simp at h'); first | done | simp [h,h',ha,hb] | simp [ha,hb]))))
 all_goals first
  | (simp [HV,ha,hb,nulV]; done)
  | (refine aA (lK 0) ?_ ?_; focus (simp; done)
     simp [lJ,V.a]; (repeat' (first | contradiction | exact .of (by kernel_rfl) | refine And.intro ?_ ?_ | intro _ | (refine aN (fun h=>?_) (fun h=>?_) <;> (have h':=h; (try simp at h'); first | done | simp [h,h'] | simp)))); all_goals simp [HV,ha,hb]; done)
  | (refine aA (lK 1) ?_ ?_; focus (simp; done)
     simp [mU,V.a]; (repeat' (first | contradiction | exact .of (by kernel_rfl) | refine And.intro ?_ ?_ | intro _ | (refine aN (fun h=>?_) (fun h=>?_) <;> (have h':=h; (try simp at h'); first | done | simp [h,h'] | simp)))); all_goals simp [HV,ha,hb]; done)
theorem RF (a:V):Cf En 273 [a.a] [] (nM a).a []:=by
 refine aD aW (fn:=Tryz.f273) (by kernel_rfl) rfl (by kernel_rfl) (by decide) (by simp) ?_
 simp [V.a]
 (repeat' (first|contradiction|exact .ok|apply And.intro|intro _|(refine gc (fun h=>?_) (fun h=>?_)<;>(have h':=h;(try simp at h');first|done|simp[h,h']|simp))))
 refine aA (mK a) (by simp [V.a]) ?_
 rcases a.tr_cases with ha | ha | ha <;> simp [ha,IntKind.wrap_i64] <;> (repeat' (first | contradiction | exact .of (by kernel_rfl) | refine And.intro ?_ ?_ | intro _ | (refine aN (fun h=>?_) (fun h=>?_) <;> (have h':=h; (try simp at h'); first | done | simp [h,h',ha] | simp [ha]))))
 all_goals first
  | (simp [nM,ha,nulV]; done)
  | (refine aA (lK 0) ?_ ?_; focus (simp; done)
     simp [lJ,V.a]; (repeat' (first | contradiction | exact .of (by kernel_rfl) | refine And.intro ?_ ?_ | intro _ | (refine aN (fun h=>?_) (fun h=>?_) <;> (have h':=h; (try simp at h'); first | done | simp [h,h'] | simp)))); all_goals simp [nM,ha]; done)
  | (refine aA (lK 1) ?_ ?_; focus (simp; done)
     simp [mU,V.a]; (repeat' (first | contradiction | exact .of (by kernel_rfl) | refine And.intro ?_ ?_ | intro _ | (refine aN (fun h=>?_) (fun h=>?_) <;> (have h':=h; (try simp at h'); first | done | simp [h,h'] | simp)))); all_goals simp [nM,ha]; done)
theorem aFo (a b:V):Cf En 176 [a.a,b.a] [] (AP a b).a []:=by
 refine aD aW (fn:=Tryz.f176) (by kernel_rfl) rfl (by kernel_rfl) (by decide) (by simp) ?_
 simp [V.a]
 (repeat' (first|contradiction|exact .ok|apply And.intro|intro _|(refine gc (fun h=>?_) (fun h=>?_)<;>(have h':=h;(try simp at h');first|done|simp[h,h']|simp))))
 refine aA (jF a) (by simp [V.a]) ?_
 simp
 refine aA (jF b) (by simp [V.a]) ?_
 rcases a.tr_cases with ha | ha | ha <;> rcases b.tr_cases with hb | hb | hb <;> simp [ha,hb] <;> (repeat' (first | contradiction | exact .of (by kernel_rfl) | refine And.intro ?_ ?_ | intro _ | (refine aN (fun h=>?_) (fun h=>?_) <;> (have h':=h; (try simp at h'); first | done | simp [h,h',ha,hb] | simp [ha,hb]))))
 all_goals first
  | (simp [AP,ha,hb,nulV]; done)
  | (refine aA (mV 0) ?_ ?_; focus (simp; done)
     simp [lJ,V.a]; (repeat' (first | contradiction | exact .of (by kernel_rfl) | refine And.intro ?_ ?_ | intro _ | (refine aN (fun h=>?_) (fun h=>?_) <;> (have h':=h; (try simp at h'); first | done | simp [h,h'] | simp)))); all_goals simp [AP,ha,hb]; done)
  | (refine aA (mV 1) ?_ ?_; focus (simp; done)
     simp [mU,V.a]; (repeat' (first | contradiction | exact .of (by kernel_rfl) | refine And.intro ?_ ?_ | intro _ | (refine aN (fun h=>?_) (fun h=>?_) <;> (have h':=h; (try simp at h'); first | done | simp [h,h'] | simp)))); all_goals simp [AP,ha,hb]; done)
theorem aFp (a b:V):Cf En 177 [a.a,b.a] [] (HV a b).a []:=by
 refine aD aW (fn:=Tryz.f177) (by kernel_rfl) rfl (by kernel_rfl) (by decide) (by simp) ?_
 simp [V.a]
 (repeat' (first|contradiction|exact .ok|apply And.intro|intro _|(refine gc (fun h=>?_) (fun h=>?_)<;>(have h':=h;(try simp at h');first|done|simp[h,h']|simp))))
 refine aA (jF a) (by simp [V.a]) ?_
 simp
 refine aA (jF b) (by simp [V.a]) ?_
 rcases a.tr_cases with ha | ha | ha <;> rcases b.tr_cases with hb | hb | hb <;> simp [ha,hb] <;> (repeat' (first | contradiction | exact .of (by kernel_rfl) | refine And.intro ?_ ?_ | intro _ | (refine aN (fun h=>?_) (fun h=>?_) <;> (have h':=h; (try simp at h'); first | done | simp [h,h',ha,hb] | simp [ha,hb]))))
 all_goals first
  | (simp [HV,ha,hb,nulV]; done)
  | (refine aA (mV 0) ?_ ?_; focus (simp; done)
     simp [lJ,V.a]; (repeat' (first | contradiction | exact .of (by kernel_rfl) | refine And.intro ?_ ?_ | intro _ | (refine aN (fun h=>?_) (fun h=>?_) <;> (have h':=h; (try simp at h'); first | done | simp [h,h'] | simp)))); all_goals simp [HV,ha,hb]; done)
  | (refine aA (mV 1) ?_ ?_; focus (simp; done)
     simp [mU,V.a]; (repeat' (first | contradiction | exact .of (by kernel_rfl) | refine And.intro ?_ ?_ | intro _ | (refine aN (fun h=>?_) (fun h=>?_) <;> (have h':=h; (try simp at h'); first | done | simp [h,h'] | simp)))); all_goals simp [HV,ha,hb]; done)
theorem RG (a:V):Cf En 172 [a.a] [] (nM a).a []:=by
 refine aD aW (fn:=Tryz.f172) (by kernel_rfl) rfl (by kernel_rfl) (by decide) (by simp) ?_
 simp [V.a]
 (repeat' (first|contradiction|exact .ok|apply And.intro|intro _|(refine gc (fun h=>?_) (fun h=>?_)<;>(have h':=h;(try simp at h');first|done|simp[h,h']|simp))))
 refine aA (jF a) (by simp [V.a]) ?_
 rcases a.tr_cases with ha | ha | ha <;> simp [ha,IntKind.wrap_i64] <;> (repeat' (first | contradiction | exact .of (by kernel_rfl) | refine And.intro ?_ ?_ | intro _ | (refine aN (fun h=>?_) (fun h=>?_) <;> (have h':=h; (try simp at h'); first | done | simp [h,h',ha] | simp [ha]))))
 all_goals first
  | (simp [nM,ha,nulV]; done)
  | (refine aA (mV 0) ?_ ?_; focus (simp; done)
     simp [lJ,V.a]; (repeat' (first | contradiction | exact .of (by kernel_rfl) | refine And.intro ?_ ?_ | intro _ | (refine aN (fun h=>?_) (fun h=>?_) <;> (have h':=h; (try simp at h'); first | done | simp [h,h'] | simp)))); all_goals simp [nM,ha]; done)
  | (refine aA (mV 1) ?_ ?_; focus (simp; done)
     simp [mU,V.a]; (repeat' (first | contradiction | exact .of (by kernel_rfl) | refine And.intro ?_ ?_ | intro _ | (refine aN (fun h=>?_) (fun h=>?_) <;> (have h':=h; (try simp at h'); first | done | simp [h,h'] | simp)))); all_goals simp [nM,ha]; done)
end Go.Proofs.Tryz
