import Derived.Test.YtgdkfmglkjfciaaGreatDoorPScs
set_option linter.all false
namespace Go.Proofs.Tryz
open Go.Ab
set_option maxRecDepth 100000
set_option maxHeartbeats 4000000
section
variable {fD:Nat→D} {T l:List Tk} {L:Nat} {p:List Tk→Res Tm}
theorem p_term (hp:Rule Es fD T L 80 p) (hT:T.length≤10000) (ha:At T l) (hl:l.length≤L) :
  CfO Es 62 [.ptr 1000000 0 0] [rdB T l] (outS fD T (bind2 (p l) fun t l'=>chainS p [wOr] [23] l'.length t l')):=by
 have hc:=p_chain hp hT [wOr] [23] (by decide) rfl ha hl
 generalize ho:outS fD T (bind2 (p l) fun t l'=>chainS p [wOr] [23] l'.length t l')=o at hc ⊢
 refine cfO_intro mixs (fn:=Tryz.f62) (by kernel_rfl) rfl (by kernel_rfl) (by decide) o (by simp) (by simp [rdB]) ?_
 cases hr:bind2 (p l) fun t l'=>chainS p [wOr] [23] l'.length t l' with
 | error e =>
   rw [hr] at ho
   subst ho
   simp only [outS] at *
   simp<;>(repeat' first|contradiction|exact .ok|apply And.intro|intro _|(refine gc (fun h=>?_) (fun h=>?_)<;>(have h':=h;(try simp at h');first|done|simp[h,h']|simp)))
   exact acallP_pan [1000000] (hc) (by simp) (by simp) (by simp) (by simp) (by kernel_rfl)
 | ok x =>
   obtain ⟨t,m⟩:=x
   rw [hr] at ho
   subst ho
   simp only [outS] at *
   simp<;>(repeat' first|contradiction|exact .ok|apply And.intro|intro _|(refine gc (fun h=>?_) (fun h=>?_)<;>(have h':=h;(try simp at h');first|done|simp[h,h']|simp)))
   refine acallP_of (acallT_hand [1000000] (hc) (by simp) (by simp) (by simp) (by simp) (by simp) ?_)
   simp<;>(repeat' first|contradiction|exact .ok|apply And.intro|intro _|(refine gc (fun h=>?_) (fun h=>?_)<;>(have h':=h;(try simp at h');first|done|simp[h,h']|simp)))
theorem p_and (hp:Rule Es fD T L 93 p) (hT:T.length≤10000) (ha:At T l) (hl:l.length≤L) :
  CfO Es 80 [.ptr 1000000 0 0] [rdB T l] (outS fD T (bind2 (p l) fun t l'=>chainS p [wAnd] [22] l'.length t l')):=by
 have hc:=p_chain hp hT [wAnd] [22] (by decide) rfl ha hl
 generalize ho:outS fD T (bind2 (p l) fun t l'=>chainS p [wAnd] [22] l'.length t l')=o at hc ⊢
 refine cfO_intro mixs (fn:=Tryz.f80) (by kernel_rfl) rfl (by kernel_rfl) (by decide) o (by simp) (by simp [rdB]) ?_
 cases hr:bind2 (p l) fun t l'=>chainS p [wAnd] [22] l'.length t l' with
 | error e =>
   rw [hr] at ho
   subst ho
   simp only [outS] at *
   simp<;>(repeat' first|contradiction|exact .ok|apply And.intro|intro _|(refine gc (fun h=>?_) (fun h=>?_)<;>(have h':=h;(try simp at h');first|done|simp[h,h']|simp)))
   exact acallP_pan [1000000] (hc) (by simp) (by simp) (by simp) (by simp) (by kernel_rfl)
 | ok x =>
   obtain ⟨t,m⟩:=x
   rw [hr] at ho
   subst ho
   simp only [outS] at *
   simp<;>(repeat' first|contradiction|exact .ok|apply And.intro|intro _|(refine gc (fun h=>?_) (fun h=>?_)<;>(have h':=h;(try simp at h');first|done|simp[h,h']|simp)))
   refine acallP_of (acallT_hand [1000000] (hc) (by simp) (by simp) (by simp) (by simp) (by simp) ?_)
   simp<;>(repeat' first|contradiction|exact .ok|apply And.intro|intro _|(refine gc (fun h=>?_) (fun h=>?_)<;>(have h':=h;(try simp at h');first|done|simp[h,h']|simp)))
theorem p_sum (hp:Rule Es fD T L 131 p) (hT:T.length≤10000) (ha:At T l) (hl:l.length≤L) :
  CfO Es 122 [.ptr 1000000 0 0] [rdB T l] (outS fD T (bind2 (p l) fun t l'=>chainS p addW [6,7,12] l'.length t l')):=by
 have hc:=p_chain hp hT addW [6,7,12] (by decide) rfl ha hl
 generalize ho:outS fD T (bind2 (p l) fun t l'=>chainS p addW [6,7,12] l'.length t l')=o at hc ⊢
 refine cfO_intro mixs (fn:=Tryz.f122) (by kernel_rfl) rfl (by kernel_rfl) (by decide) o (by simp) (by simp [rdB]) ?_
 cases hr:bind2 (p l) fun t l'=>chainS p addW [6,7,12] l'.length t l' with
 | error e =>
   rw [hr] at ho
   subst ho
   simp only [outS] at *
   simp<;>(repeat' first|contradiction|exact .ok|apply And.intro|intro _|(refine gc (fun h=>?_) (fun h=>?_)<;>(have h':=h;(try simp at h');first|done|simp[h,h']|simp)))
   exact acallP_pan [1000000] (hc) (by simp) (by simp) (by simp) (by simp) (by kernel_rfl)
 | ok x =>
   obtain ⟨t,m⟩:=x
   rw [hr] at ho
   subst ho
   simp only [outS] at *
   simp<;>(repeat' first|contradiction|exact .ok|apply And.intro|intro _|(refine gc (fun h=>?_) (fun h=>?_)<;>(have h':=h;(try simp at h');first|done|simp[h,h']|simp)))
   refine acallP_of (acallT_hand [1000000] (hc) (by simp) (by simp) (by simp) (by simp) (by simp) ?_)
   simp<;>(repeat' first|contradiction|exact .ok|apply And.intro|intro _|(refine gc (fun h=>?_) (fun h=>?_)<;>(have h':=h;(try simp at h');first|done|simp[h,h']|simp)))
theorem p_product (hp:Rule Es fD T L 138 p) (hT:T.length≤10000) (ha:At T l) (hl:l.length≤L) :
  CfO Es 131 [.ptr 1000000 0 0] [rdB T l] (outS fD T (bind2 (p l) fun t l'=>chainS p mulW [8,9,10] l'.length t l')):=by
 have hc:=p_chain hp hT mulW [8,9,10] (by decide) rfl ha hl
 generalize ho:outS fD T (bind2 (p l) fun t l'=>chainS p mulW [8,9,10] l'.length t l')=o at hc ⊢
 refine cfO_intro mixs (fn:=Tryz.f131) (by kernel_rfl) rfl (by kernel_rfl) (by decide) o (by simp) (by simp [rdB]) ?_
 cases hr:bind2 (p l) fun t l'=>chainS p mulW [8,9,10] l'.length t l' with
 | error e =>
   rw [hr] at ho
   subst ho
   simp only [outS] at *
   simp<;>(repeat' first|contradiction|exact .ok|apply And.intro|intro _|(refine gc (fun h=>?_) (fun h=>?_)<;>(have h':=h;(try simp at h');first|done|simp[h,h']|simp)))
   exact acallP_pan [1000000] (hc) (by simp) (by simp) (by simp) (by simp) (by kernel_rfl)
 | ok x =>
   obtain ⟨t,m⟩:=x
   rw [hr] at ho
   subst ho
   simp only [outS] at *
   simp<;>(repeat' first|contradiction|exact .ok|apply And.intro|intro _|(refine gc (fun h=>?_) (fun h=>?_)<;>(have h':=h;(try simp at h');first|done|simp[h,h']|simp)))
   refine acallP_of (acallT_hand [1000000] (hc) (by simp) (by simp) (by simp) (by simp) (by simp) ?_)
   simp<;>(repeat' first|contradiction|exact .ok|apply And.intro|intro _|(refine gc (fun h=>?_) (fun h=>?_)<;>(have h':=h;(try simp at h');first|done|simp[h,h']|simp)))
theorem p_not {q:List Tk→Res Tm} (hp:Rule Es fD T L 93 p) (hq:Rule Es fD T (L+1) 108 q) (hT:T.length≤10000) (ha:At T l) (hl:l.length≤L+1) :
  CfO Es 93 [.ptr 1000000 0 0] [rdB T l] (outS fD T (if isW wNot l=true then mapT (fun t=>mkT 24 [t]) (p l.tail) else q l)):=by
 generalize ho:outS fD T (if isW wNot l=true then mapT (fun t=>mkT 24 [t]) (p l.tail) else q l)=o
 refine cfO_intro mixs (fn:=Tryz.f93) (by kernel_rfl) rfl (by kernel_rfl) (by decide) o (by simp) (by simp [rdB]) ?_
 cases hw:isW wNot l with
 | true =>
   rw [hw,if_pos rfl] at ho
   have hlen:=isW_len hw
   simp<;>(repeat' first|contradiction|exact .ok|apply And.intro|intro _|(refine gc (fun h=>?_) (fun h=>?_)<;>(have h':=h;(try simp at h');first|done|simp[h,h']|simp)))
   refine acallP_of (acallT_hand [1000000] (take_yes ha hT hw) (by simp) (by simp) (by simp) (by simp) (by simp) ?_)
   simp<;>(repeat' first|contradiction|exact .ok|apply And.intro|intro _|(refine gc (fun h=>?_) (fun h=>?_)<;>(have h':=h;(try simp at h');first|done|simp[h,h']|simp)))
   rcases hp.step (ha.tl hw) (by omega) with ⟨e,he,hc⟩ | ⟨t,m,he,hm,hlm,hc⟩
   ·rw [he] at ho
    subst ho
    exact acallP_pan [1000000] (hc) (by simp) (by simp) (by simp) (by simp) (by kernel_rfl)
   rw [he] at ho
   subst ho
   refine acallP_of (acallT_hand [1000000] (hc) (by simp) (by simp) (by simp) (by simp) (by simp) ?_)
   simp<;>(repeat' first|contradiction|exact .ok|apply And.intro|intro _|(refine gc (fun h=>?_) (fun h=>?_)<;>(have h':=h;(try simp at h');first|done|simp[h,h']|simp)))
   refine acallP_of (acallT_plain (ups (p_made 24 [t])) (by simp) ?_)
   simp only [mapT,bind2,outS]
   simp<;>(repeat' first|contradiction|exact .ok|apply And.intro|intro _|(refine gc (fun h=>?_) (fun h=>?_)<;>(have h':=h;(try simp at h');first|done|simp[h,h']|simp)))
 | false =>
   rw [hw,if_neg (by simp)] at ho
   simp<;>(repeat' first|contradiction|exact .ok|apply And.intro|intro _|(refine gc (fun h=>?_) (fun h=>?_)<;>(have h':=h;(try simp at h');first|done|simp[h,h']|simp)))
   refine acallP_of (acallT_hand [1000000] (take_no ha hT hw) (by simp) (by simp) (by simp) (by simp) (by simp) ?_)
   simp<;>(repeat' first|contradiction|exact .ok|apply And.intro|intro _|(refine gc (fun h=>?_) (fun h=>?_)<;>(have h':=h;(try simp at h');first|done|simp[h,h']|simp)))
   rcases hq.step ha hl with ⟨e,he,hc⟩ | ⟨t,m,he,hm,hlm,hc⟩
   ·rw [he] at ho
    subst ho
    exact acallP_pan [1000000] (hc) (by simp) (by simp) (by simp) (by simp) (by kernel_rfl)
   rw [he] at ho
   subst ho
   refine acallP_of (acallT_hand [1000000] (hc) (by simp) (by simp) (by simp) (by simp) (by simp) ?_)
   simp only [outS]
   simp<;>(repeat' first|contradiction|exact .ok|apply And.intro|intro _|(refine gc (fun h=>?_) (fun h=>?_)<;>(have h':=h;(try simp at h');first|done|simp[h,h']|simp)))
end
end Go.Proofs.Tryz
