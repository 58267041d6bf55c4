import Derived.Test.YthpmjipkofbeiaaGreatDoorTPri
import Derived.Test.YthpmjipkofbeiaaGreatDoorSqt
import Derived.Test.YthpmjipkofbeiaaGreatDoorTFtt
set_option linter.all false
namespace Go.Proofs.Tryz
open Go.Ab
set_option maxRecDepth 100000
set_option maxHeartbeats 2000000
theorem s_validTerm (x:Tm) (hf:x.fits):Cf Es 22 [x.a] [] (.d (.bool (decide (x.dep≤24)&&x.right))) []:=by
 refine cf_intro mixs (fn:=Tryz.f22) (by kernel_rfl) rfl (by kernel_rfl) (by decide) (by simp) ?_
 have h1:=ups (s_termDepth _ x (Nat.lt_succ_self _) hf)
 have h2:=s_formed _ x (Nat.lt_succ_self _) hf
 have c1:=x.clen
 have k1:=x.ctake
 simp [Tm.a,c1,k1]
 (repeat refine ⟨.of (by kernel_rfl),?_⟩)
 refine acallT_plain h1 (by simp [Tm.a]) ?_
 simp [c1,k1]
 (repeat' (first|contradiction|exact .ok|apply And.intro|intro _|(refine gc (fun h=>?_) (fun h=>?_)<;>(have h':=h;(try simp at h');first|done|simp[h,h',c1,k1]|simp[c1,k1]))))
 all_goals first | (refine acallT_plain h2 (by simp [Tm.a]) ?_; simp; (repeat' (first | contradiction | exact .of (by kernel_rfl) | refine And.intro ?_ ?_ | intro _ | (refine agrd_cases (fun h=>?_) (fun h=>?_) <;> (have h':=h; (try simp at h'); first | done | simp [h,h'] | simp))))) | skip
 all_goals simp_all
end Go.Proofs.Tryz
