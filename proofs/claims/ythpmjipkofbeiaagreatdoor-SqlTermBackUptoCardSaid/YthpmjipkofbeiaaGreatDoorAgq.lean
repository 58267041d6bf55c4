import Derived.Test.YthpmjipkofbeiaaGreatDoorTLvl
set_option linter.all false
namespace Go.Proofs.Tryz
open Go.Ab
set_option maxRecDepth 100000
set_option maxHeartbeats 4000000
section
variable {fD:Nat→D} {T l:List Tk} {L:Nat} {p:List Tk→Res Tm}
theorem p_aggregate (hF:FailOk fD) (hp:Rule Es fD T L 31 p) (hT:T.length≤10000) (ha:At T l) (hl:l.length≤L) (i:Nat) (hi:i<4) :
  CfO Es 219 [.ptr 1000000 0 0,.d (.int .i64 i)] [rdB T l] (outS fD T (aggS p i l)):=by
 generalize ho:outS fD T (aggS p i l)=o
 unfold aggS at ho
 refine cfO_intro mixs (fn:=Tryz.f219) (by kernel_rfl) rfl (by kernel_rfl) (by decide) o (by simp) (by simp [rdB]) ?_
 rcases exp_step hF ha hT [wOpen] (by decide) with ⟨e,he,hc⟩ | ⟨l1,he,h1,hl1,hc⟩
 ·rw [he] at ho
  subst ho
  rcases (show i=0∨i=1∨i=2∨i=3 by omega) with rfl | rfl | rfl | rfl
  all_goals
   simp<;>(repeat' first|contradiction|exact .ok|apply And.intro|intro _|(refine gc (fun h=>?_) (fun h=>?_)<;>(have h':=h;(try simp at h');first|done|simp[h,h']|simp)))
   exact acallP_pan [1000000] (hc) (by simp) (by simp) (by simp) (by simp) (by kernel_rfl)
 rw [he,bind1_ok] at ho
 by_cases hi0:i=0
 ·subst hi0
  simp only [true_and] at ho
  cases hs:isW wStar l1 with
  | true =>
    rw [hs,if_pos rfl] at ho
    simp<;>(repeat' first|contradiction|exact .ok|apply And.intro|intro _|(refine gc (fun h=>?_) (fun h=>?_)<;>(have h':=h;(try simp at h');first|done|simp[h,h']|simp)))
    refine acallP_of (acallT_hand [1000000] (hc) (by simp) (by simp) (by simp) (by simp) (by simp) ?_)
    simp<;>(repeat' first|contradiction|exact .ok|apply And.intro|intro _|(refine gc (fun h=>?_) (fun h=>?_)<;>(have h':=h;(try simp at h');first|done|simp[h,h']|simp)))
    refine acallP_of (acallT_hand [1000000] (take_yes h1 hT hs) (by simp) (by simp) (by simp) (by simp) (by simp) ?_)
    simp<;>(repeat' first|contradiction|exact .ok|apply And.intro|intro _|(refine gc (fun h=>?_) (fun h=>?_)<;>(have h':=h;(try simp at h');first|done|simp[h,h']|simp)))
    rcases exp_step hF (h1.tl hs) hT [wShut] (by decide) with ⟨e,he3,hc3⟩ | ⟨l4,he3,h4,hl4,hc3⟩
    ·rw [he3] at ho
     subst ho
     exact acallP_pan [1000000] (hc3) (by simp) (by simp) (by simp) (by simp) (by kernel_rfl)
    rw [he3,bind1_ok] at ho
    subst ho
    refine acallP_of (acallT_hand [1000000] (hc3) (by simp) (by simp) (by simp) (by simp) (by simp) ?_)
    simp<;>(repeat' first|contradiction|exact .ok|apply And.intro|intro _|(refine gc (fun h=>?_) (fun h=>?_)<;>(have h':=h;(try simp at h');first|done|simp[h,h']|simp)))
    refine acallP_of (acallT_plain (ups (p_made 41 [])) (by simp) ?_)
    simp only [outS]
    simp [mkT,Tm.c,tmsC]<;>(repeat' first|contradiction|exact .ok|apply And.intro|intro _|(refine gc (fun h=>?_) (fun h=>?_)<;>(have h':=h;(try simp at h');first|done|simp[h,h',mkT,Tm.c,tmsC]|simp[mkT,Tm.c,tmsC])))
  | false =>
    rw [hs,if_neg (by simp)] at ho
    cases hd:isW wDistinct l1 with
    | true =>
      rw [hd,if_pos rfl] at ho
      simp<;>(repeat' first|contradiction|exact .ok|apply And.intro|intro _|(refine gc (fun h=>?_) (fun h=>?_)<;>(have h':=h;(try simp at h');first|done|simp[h,h']|simp)))
      refine acallP_of (acallT_hand [1000000] (hc) (by simp) (by simp) (by simp) (by simp) (by simp) ?_)
      simp<;>(repeat' first|contradiction|exact .ok|apply And.intro|intro _|(refine gc (fun h=>?_) (fun h=>?_)<;>(have h':=h;(try simp at h');first|done|simp[h,h']|simp)))
      refine acallP_of (acallT_hand [1000000] (take_no h1 hT hs) (by simp) (by simp) (by simp) (by simp) (by simp) ?_)
      simp<;>(repeat' first|contradiction|exact .ok|apply And.intro|intro _|(refine gc (fun h=>?_) (fun h=>?_)<;>(have h':=h;(try simp at h');first|done|simp[h,h']|simp)))
      refine acallP_of (acallT_hand [1000000] (take_yes h1 hT hd) (by simp) (by simp) (by simp) (by simp) (by simp) ?_)
      simp<;>(repeat' first|contradiction|exact .ok|apply And.intro|intro _|(refine gc (fun h=>?_) (fun h=>?_)<;>(have h':=h;(try simp at h');first|done|simp[h,h']|simp)))
      rcases hp.step (h1.tl hd) (by simp; omega) with ⟨e,he2,hc2⟩ | ⟨t,l2,he2,h2,hl2,hc2⟩
      ·rw [he2,bind2_err] at ho
       subst ho
       exact acallP_pan [1000000] (hc2) (by simp) (by simp) (by simp) (by simp) (by kernel_rfl)
      rw [he2,bind2_ok] at ho
      refine acallP_of (acallT_hand [1000000] (hc2) (by simp) (by simp) (by simp) (by simp) (by simp) ?_)
      simp<;>(repeat' first|contradiction|exact .ok|apply And.intro|intro _|(refine gc (fun h=>?_) (fun h=>?_)<;>(have h':=h;(try simp at h');first|done|simp[h,h']|simp)))
      refine acallP_of (acallT_plain (ups (p_made 41 [t])) (by simp) ?_)
      simp [mkT,Tm.c,tmsC]<;>(repeat' first|contradiction|exact .ok|apply And.intro|intro _|(refine gc (fun h=>?_) (fun h=>?_)<;>(have h':=h;(try simp at h');first|done|simp[h,h',mkT,Tm.c,tmsC]|simp[mkT,Tm.c,tmsC])))
      rcases exp_step hF h2 hT [wShut] (by decide) with ⟨e,he3,hc3⟩ | ⟨l4,he3,h4,hl4,hc3⟩
      ·rw [he3] at ho
       subst ho
       exact acallP_pan [1000000] (hc3) (by simp) (by simp) (by simp) (by simp) (by kernel_rfl)
      rw [he3,bind1_ok] at ho
      subst ho
      refine acallP_of (acallT_hand [1000000] (hc3) (by simp) (by simp) (by simp) (by simp) (by simp) ?_)
      simp only [outS]
      simp [mkT,Tm.c,tmsC]<;>(repeat' first|contradiction|exact .ok|apply And.intro|intro _|(refine gc (fun h=>?_) (fun h=>?_)<;>(have h':=h;(try simp at h');first|done|simp[h,h',mkT,Tm.c,tmsC]|simp[mkT,Tm.c,tmsC])))
    | false =>
      rw [hd,if_neg (by simp)] at ho
      simp<;>(repeat' first|contradiction|exact .ok|apply And.intro|intro _|(refine gc (fun h=>?_) (fun h=>?_)<;>(have h':=h;(try simp at h');first|done|simp[h,h']|simp)))
      refine acallP_of (acallT_hand [1000000] (hc) (by simp) (by simp) (by simp) (by simp) (by simp) ?_)
      simp<;>(repeat' first|contradiction|exact .ok|apply And.intro|intro _|(refine gc (fun h=>?_) (fun h=>?_)<;>(have h':=h;(try simp at h');first|done|simp[h,h']|simp)))
      refine acallP_of (acallT_hand [1000000] (take_no h1 hT hs) (by simp) (by simp) (by simp) (by simp) (by simp) ?_)
      simp<;>(repeat' first|contradiction|exact .ok|apply And.intro|intro _|(refine gc (fun h=>?_) (fun h=>?_)<;>(have h':=h;(try simp at h');first|done|simp[h,h']|simp)))
      refine acallP_of (acallT_hand [1000000] (take_no h1 hT hd) (by simp) (by simp) (by simp) (by simp) (by simp) ?_)
      simp<;>(repeat' first|contradiction|exact .ok|apply And.intro|intro _|(refine gc (fun h=>?_) (fun h=>?_)<;>(have h':=h;(try simp at h');first|done|simp[h,h']|simp)))
      rcases hp.step h1 (by omega) with ⟨e,he2,hc2⟩ | ⟨t,l2,he2,h2,hl2,hc2⟩
      ·rw [he2,bind2_err] at ho
       subst ho
       exact acallP_pan [1000000] (hc2) (by simp) (by simp) (by simp) (by simp) (by kernel_rfl)
      rw [he2,bind2_ok] at ho
      refine acallP_of (acallT_hand [1000000] (hc2) (by simp) (by simp) (by simp) (by simp) (by simp) ?_)
      simp<;>(repeat' first|contradiction|exact .ok|apply And.intro|intro _|(refine gc (fun h=>?_) (fun h=>?_)<;>(have h':=h;(try simp at h');first|done|simp[h,h']|simp)))
      refine acallP_of (acallT_plain (ups (p_made 41 [t])) (by simp) ?_)
      simp [mkT,Tm.c,tmsC]<;>(repeat' first|contradiction|exact .ok|apply And.intro|intro _|(refine gc (fun h=>?_) (fun h=>?_)<;>(have h':=h;(try simp at h');first|done|simp[h,h',mkT,Tm.c,tmsC]|simp[mkT,Tm.c,tmsC])))
      rcases exp_step hF h2 hT [wShut] (by decide) with ⟨e,he3,hc3⟩ | ⟨l4,he3,h4,hl4,hc3⟩
      ·rw [he3] at ho
       subst ho
       exact acallP_pan [1000000] (hc3) (by simp) (by simp) (by simp) (by simp) (by kernel_rfl)
      rw [he3,bind1_ok] at ho
      subst ho
      refine acallP_of (acallT_hand [1000000] (hc3) (by simp) (by simp) (by simp) (by simp) (by simp) ?_)
      simp only [outS]
      simp [mkT,Tm.c,tmsC,aggF]<;>(repeat' first|contradiction|exact .ok|apply And.intro|intro _|(refine gc (fun h=>?_) (fun h=>?_)<;>(have h':=h;(try simp at h');first|done|simp[h,h',mkT,Tm.c,tmsC,aggF]|simp[mkT,Tm.c,tmsC,aggF])))
 ·rw [if_neg (by simp [hi0]),if_neg (by simp [hi0])] at ho
  rcases (show i=1∨i=2∨i=3 by omega) with rfl | rfl | rfl
  all_goals
   simp<;>(repeat' first|contradiction|exact .ok|apply And.intro|intro _|(refine gc (fun h=>?_) (fun h=>?_)<;>(have h':=h;(try simp at h');first|done|simp[h,h']|simp)))
   refine acallP_of (acallT_hand [1000000] (hc) (by simp) (by simp) (by simp) (by simp) (by simp) ?_)
   simp<;>(repeat' first|contradiction|exact .ok|apply And.intro|intro _|(refine gc (fun h=>?_) (fun h=>?_)<;>(have h':=h;(try simp at h');first|done|simp[h,h']|simp)))
   rcases hp.step h1 (by omega) with ⟨e,he2,hc2⟩ | ⟨t,l2,he2,h2,hl2,hc2⟩
   ·rw [he2,bind2_err] at ho
    subst ho
    exact acallP_pan [1000000] (hc2) (by simp) (by simp) (by simp) (by simp) (by kernel_rfl)
   rw [he2,bind2_ok] at ho
   refine acallP_of (acallT_hand [1000000] (hc2) (by simp) (by simp) (by simp) (by simp) (by simp) ?_)
   simp<;>(repeat' first|contradiction|exact .ok|apply And.intro|intro _|(refine gc (fun h=>?_) (fun h=>?_)<;>(have h':=h;(try simp at h');first|done|simp[h,h']|simp)))
   refine acallP_of (acallT_plain (ups (p_made 41 [t])) (by simp) ?_)
   simp [mkT,Tm.c,tmsC]<;>(repeat' first|contradiction|exact .ok|apply And.intro|intro _|(refine gc (fun h=>?_) (fun h=>?_)<;>(have h':=h;(try simp at h');first|done|simp[h,h',mkT,Tm.c,tmsC]|simp[mkT,Tm.c,tmsC])))
   rcases exp_step hF h2 hT [wShut] (by decide) with ⟨e,he3,hc3⟩ | ⟨l4,he3,h4,hl4,hc3⟩
   ·rw [he3] at ho
    subst ho
    exact acallP_pan [1000000] (hc3) (by simp) (by simp) (by simp) (by simp) (by kernel_rfl)
   rw [he3,bind1_ok] at ho
   subst ho
   refine acallP_of (acallT_hand [1000000] (hc3) (by simp) (by simp) (by simp) (by simp) (by simp) ?_)
   simp only [outS]
   simp [mkT,Tm.c,tmsC,aggF]<;>(repeat' first|contradiction|exact .ok|apply And.intro|intro _|(refine gc (fun h=>?_) (fun h=>?_)<;>(have h':=h;(try simp at h');first|done|simp[h,h',mkT,Tm.c,tmsC,aggF]|simp[mkT,Tm.c,tmsC,aggF])))
end
end Go.Proofs.Tryz
