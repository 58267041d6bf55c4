import Derived.Test.YtkkbepgccddjoaaGreatDoorAShy
set_option linter.all false
namespace Go.Proofs.Tryz
open Go.Ab
def nulV:V:=⟨0,0,[]⟩
def boolV (n:Int):V:=if n ≠ 0∧n ≠ 1 then nulV else ⟨2,n,[]⟩
theorem boolV0:boolV 0=⟨2,0,[]⟩:=by simp [boolV]
theorem boolV1:boolV 1=⟨2,1,[]⟩:=by simp [boolV]
theorem r_bool (n:Int):Cf En 119 [.d (.int .i64 n)] [] (boolV n).a []:=by
 refine cf_intro mix (fn:=Tryz.f119) (by kernel_rfl) rfl (by kernel_rfl) (by decide) (by simp) ?_
 by_cases h0:n=0
 ·subst h0
  simp [V.a,boolV,IntKind.wrap_i64]
  repeat' (first | exact .of (by kernel_rfl) | refine And.intro ?_ ?_)
 by_cases h1:n=1
 ·subst h1
  simp [V.a,boolV,IntKind.wrap_i64]
  repeat' (first | exact .of (by kernel_rfl) | refine And.intro ?_ ?_)
 simp [V.a,boolV,h0,h1,nulV]
 repeat' (first | exact .of (by kernel_rfl) | refine And.intro ?_ ?_)
 (repeat' (first|contradiction|exact .ok|apply And.intro|intro _|(refine gc (fun h=>?_) (fun h=>?_)<;>(have h':=h;(try simp at h');first|done|simp[h,h',h0,h1]|simp[h0,h1]))))
end Go.Proofs.Tryz
